/-
  ProgressAssembler: Result.
-/
import Derived.Test.YtogpjenmfgpfiaaHandPa2
namespace Go.Proofs.Ytogpjenmfgpfiaa.QProgressAssembler
open Go.RowKit Go.Proofs.YtogpjenmfgpfiaaW.PrintWords Go.Proofs.YtogpjenmfgpfiaaW.PrintLast Go.Proofs.YtogpjenmfgpfiaaW.PrintMore Go.Proofs.Ytogpjenmfgpfiaa.Hand
attribute [local go_sem] max2_int min2_int max_two min_two max_three min_three max_four min_four
set_option linter.unusedVariables false
set_option linter.unusedSimpArgs false
/-- The items of the chunks 0 to n - 1, one behind the other. -/
def catL (l : List (Int × Ck)) : Nat → List Int
  | 0 => []
  | n + 1 => catL l n ++ ((mget l (n : Int)).getD zCk).v.f3
theorem catL_len {l : List (Int × Ck)} (h : ∀ s, ((mget l s).getD zCk).v.f3.length ≤ 1000) : ∀ n, (catL l n).length ≤ n * 1000
  | 0 => by simp [catL]
  | n + 1 => by
    have := catL_len h n
    have := h (n : Int)
    rw [catL, List.length_append]
    omega
theorem AsI.len {ab om : Nat} {ms : List (Int × Tk)} {W : World} (h : AsI ab om ms W) (t : Int) (ty : TypeId) : (Builtin.len_ #[95] ty #[.map (tb ms t)]).run Try.prog W = .ok (.int .i64 (tk ms t).length) W := by
  unfold tb tk
  cases e : mget ms t with
  | none =>
    unfold Builtin.len_
    simp only [Option.map_none, List.getElem?_toArray, List.getElem?_cons_zero, Sem.run_bind, run_underlying Try.underlying95, Result.andThen, Sem.run_pure, goInt, List.length_nil]
    rfl
  | some k =>
    have := (h.2.2.1 _ (mget_mem e)).len (P := Try.prog) Try.underlying95 ty
    rw [encL, List.length_map] at this
    exact this
theorem field3 (W : World) (a b : Int) (c : Bool) (A : Option Addr) (n k : Nat) : (Instr.field 51 (.agg #[.int .i64 a, .int .i64 b, .bool c, .slice A n k]) 3).run Try.prog W = .ok (.slice A n k) W := by kernel_rfl
def ResQ (w : World) (ms : List (Int × Tk)) (t : Int) (e : Ending) (w' : World) : Prop :=
  ∃ f g, Bnd (tk ms t) f g ∧ Below w.heap.size w w' ∧
      ((f < 0 ∨ (tk ms t).length ≠ f + 1) ∧ e = .returned (.tuple #[.slice none 0 0, .bool false]) ∨
        0 ≤ f ∧ (tk ms t).length = f + 1 ∧ ∃ v, e = .returned (.tuple #[v, .bool true]) ∧ Kd.R (Kd.int .i64) 3 w' w.heap.size (fun _ => True) v (catL (tk ms t) (f + 1).toNat))
set_option maxRecDepth 100000 in
set_option maxHeartbeats 8000000 in
theorem result_calls {ab om : Nat} {ms : List (Int × Tk)} {w : World} (h : AsI ab om ms w) (t : Int) (hk : ∀ q ∈ tk ms t, 0 ≤ q.1 ∧ q.1 < 1000) (hlen : (tk ms t).length ≤ 1000) (hit : ∀ s, ((ck ms t s).getD zCk).v.f3.length ≤ 1000) :
    Calls Try.prog 21 #[.pointer (some ⟨ab, 0, none⟩), .int .i64 t] w (ResQ w ms t) := by
  have HI := Aside0.mk h
  have HK := Aside0.mk hk
  have HL := Aside0.mk hlen
  have HIT := Aside0.mk hit
  have hu51 := Try.underlying51
  clear h hk hlen hit
  go_enter Try.func21, Try.ntmps21
  go_upto_region 2 with (go_at_call 46; refine (bounds_calls HI.out t (fun q hq => (HK.out q hq).1)).mono ?_; rintro e w1 ⟨f, g, rfl, hB, hb1⟩; have HB := Aside0.mk hB; have HB1 := Aside0.mk hb1; clear hB hb1)
  have HI1 := Aside0.mk (HI.out.below HB1.out)
  have c0 := HI1.out.cell
  have ho := HI1.out.outer t
  have hl := HI1.out.len t
  by_cases hf : f < 0
  · have b0 : decide (f < 0) = true := decide_eq_true hf
    go_wp2
    refine bodyPost_ret (results_2 rfl _ _ _) rfl ?_
    exact ⟨f, g, HB.out, HB1.out, .inl ⟨.inl (by omega), rfl⟩⟩
  · have b0 : decide (f < 0) = false := decide_eq_false hf
    have hf0 : 0 ≤ f := by omega
    have hfm : f < 1000 := by
      rcases HB.out.fin with e | ⟨q, hq, _, e⟩
      · omega
      · have := (HK.out q hq).2; omega
    have hr : (f + 9223372036854775808 + 1) % 18446744073709551616 - 9223372036854775808 = f + 1 := by omega
    by_cases hn : ((tk ms t).length : Int) = f + 1
    · obtain ⟨F, hF⟩ : ∃ F : Nat, f = (F : Int) := ⟨f.toNat, by omega⟩
      subst hF
      go_wp2
      go_loopg [8, 32] (F + 1) (fun kq v8 v32 W => ∃ i : Nat, v32 = .int .i64 (i : Int) ∧ kq + i = F + 1 ∧ Aside0 (Kd.R (Kd.int .i64) 3 W w.heap.size (fun _ => True) v8 (catL (tk ms t) i) ∧ Below w.heap.size w W))
      case atStart => exact ⟨0, rfl, rfl, ⟨Kd.R_nil _ _ _ _ _, HB1.out⟩⟩
      case round =>
        obtain ⟨i, rfl, hi, hA⟩ := hrel
        have HIW := Aside0.mk (HI.out.below hA.out.2)
        cases gk with
        | zero =>
          obtain rfl : i = F + 1 := by omega
          have b1 : decide (((F + 1 : Nat) : Int) < (F : Int) + 1) = false := decide_eq_false (by omega)
          have b2 : decide ((F : Int) + 1 < (F : Int) + 1) = false := decide_eq_false (by omega)
          clear hi
          go_wp2
          refine bodyPost_ret (results_2 rfl _ _ _) rfl ?_
          exact ⟨F, g, HB.out, hA.out.2, .inr ⟨hf0, hn, _, rfl, hA.out.1⟩⟩
        | succ k2 =>
          have b1 : decide ((i : Int) < (F : Int) + 1) = true := decide_eq_true (by omega)
          have d0 := HIW.out.cell
          have do_ := HIW.out.outer t
          have di := HIW.out.inner t (i : Int) false
          have hrr := HIW.out.ck_ok t (i : Int)
          have hrl := HIT.out (i : Int)
          have hst : catL (tk ms t) (i + 1) = catL (tk ms t) i ++ ((ck ms t (i : Int)).getD zCk).v.f3 := rfl
          obtain ⟨r, hr2⟩ : ∃ r, (ck ms t (i : Int)).getD zCk = r := ⟨_, rfl⟩
          rw [hr2] at di hrr hrl hst
          have HRR := Aside0.mk hrr
          have HLEN := Aside0.mk (show ((catL (tk ms t) i).length + r.v.f3.length) * 8 ≤ 140737488355328 by
            have := catL_len (l := tk ms t) HIT.out i
            omega)
          have hr3 : ((i : Int) + 9223372036854775808 + 1) % 18446744073709551616 - 9223372036854775808 = (i : Int) + 1 := by omega
          have di2 : (Instr.lookup 95 (.map (tb ms t)) (.int .i64 (i : Int)) false).run Try.prog wr = .ok (.agg #[.int .i64 r.v.f0, .int .i64 r.v.f1, .bool r.v.f2, .slice r.A r.v.f3.length r.c]) wr := di
          have hfd := field3 wr r.v.f0 r.v.f1 r.v.f2 r.A r.v.f3.length r.c
          have HST := Aside0.mk hst
          have HII := Aside0.mk hi
          clear di hrr hrl hst hi hr2
          go_wp2_with ((with_reducible refine gate_builtin (b := .append) (xs := #[.tmp 35, .tmp 44]) rfl ?_); at_builtin; refine Kd.R_append_rows (Kd.int .i64) (w0 := w) w.heap.size rfl (.tmp 35) (.tmp 44) 24 3 (.int .i64 0) 8 rfl Try.underlying24 info3 rfl (by decide) (by omega) u8 (catL (tk ms t) i) r.v.f3 _ _ _ (fun _ => True) (fun _ => False) rfl rfl hA.out.1 HRR.out.reads (fun _ _ h => h) (fun _ h => h.elim) (fun _ _ => trivial) hA.out.2 hA.out.2.size HLEN.out ?_; intro v5 w5 ho5 hb5 hg5 hat5; have HO5 := Aside0.mk ho5; have HB5 := Aside0.mk hb5; clear ho5 hb5 hg5 hat5)
          go_roundg k2
          case measure => omega
          case rel => exact ⟨i + 1, by simp, by have := HII.out; omega, ⟨by rw [HST.out]; exact HO5.out, HB5.out⟩⟩
    · have hnb : (((tk ms t).length : Int) == f + 1) = false := by simpa using hn
      go_wp2
      refine bodyPost_ret (results_2 rfl _ _ _) rfl ?_
      exact ⟨f, g, HB.out, HB1.out, .inl ⟨.inr hn, rfl⟩⟩
end Go.Proofs.Ytogpjenmfgpfiaa.QProgressAssembler
