/-
  ProgressAssembler: Missing.
-/
import Derived.Test.YtogpjenmfgpfiaaHandPa3
namespace Go.Proofs.Ytogpjenmfgpfiaa.QProgressAssembler
open Go.RowKit Go.Proofs.YtogpjenmfgpfiaaW.PrintWords Go.Proofs.YtogpjenmfgpfiaaW.PrintLast Go.Proofs.YtogpjenmfgpfiaaW.PrintMore Go.Proofs.Ytogpjenmfgpfiaa.Hand
attribute [local go_sem] max2_int min2_int max_two min_two max_three min_three max_four min_four
set_option linter.unusedVariables false
set_option linter.unusedSimpArgs false
/-- The numbers below n that no chunk has. -/
def missL (l : List (Int × Ck)) : Nat → List Int
  | 0 => []
  | n + 1 => missL l n ++ if (mget l (n : Int)).isSome = true then [] else [(n : Int)]
theorem missL_len (l : List (Int × Ck)) : ∀ n, (missL l n).length ≤ n
  | 0 => by simp [missL]
  | n + 1 => by
    have := missL_len l n
    rw [missL, List.length_append]
    split <;> simp <;> omega
def MissQ (w : World) (ms : List (Int × Tk)) (t : Int) (e : Ending) (w' : World) : Prop :=
  ∃ f g, Bnd (tk ms t) f g ∧ Below w.heap.size w w' ∧ ∃ v, e = .returned v ∧ Kd.R (Kd.int .i64) 3 w' w.heap.size (fun _ => True) v (missL (tk ms t) g.toNat)
set_option maxRecDepth 100000 in
set_option maxHeartbeats 8000000 in
theorem missing_calls {ab om : Nat} {ms : List (Int × Tk)} {w : World} (h : AsI ab om ms w) (t : Int) (hk : ∀ q ∈ tk ms t, 0 ≤ q.1 ∧ q.1 < 1000) : Calls Try.prog 24 #[.pointer (some ⟨ab, 0, none⟩), .int .i64 t] w (MissQ w ms t) := by
  have HI := Aside0.mk h
  have HK := Aside0.mk hk
  have hu51 := Try.underlying51
  clear h hk
  go_enter Try.func24, Try.ntmps24
  go_upto_region 2 with (go_at_call 46; refine (bounds_calls HI.out t (fun q hq => (HK.out q hq).1)).mono ?_; rintro e w1 ⟨f, g, rfl, hB, hb1⟩; have HB := Aside0.mk hB; have HB1 := Aside0.mk hb1; clear hB hb1)
  have hgm : g < 1000 := by
    rcases HB.out.top with ⟨e, _⟩ | ⟨q, hq, e⟩
    · omega
    · have := (HK.out q hq).2; omega
  obtain ⟨G, hG⟩ : ∃ G : Nat, G = g.toNat := ⟨_, rfl⟩
  have hG2 : (if g < 0 then (0 : Int) else g) = (G : Int) := by split <;> omega
  by_cases hg : g < 0
  · have b0 : decide (g < 0) = true := decide_eq_true hg
    have hGz : g.toNat = 0 := by omega
    have HGZ := Aside0.mk hGz
    clear hGz hG hG2
    go_wp2
    refine wp_loop_rounds 1 ?_
    rw [rounds_succ]
    go_wp2
    go_ret
    exact ⟨f, g, HB.out, HB1.out, _, rfl, by rw [HGZ.out]; exact Kd.R_nil _ _ _ _ _⟩
  · have b0 : decide (g < 0) = false := decide_eq_false hg
    obtain rfl : g = (G : Int) := by omega
    have HGM := Aside0.mk hgm
    clear hgm hG hG2
    go_wp2
    go_loopg [7, 19] G (fun kq v7 v19 W => ∃ i : Nat, v19 = .int .i64 (i : Int) ∧ kq + i = G ∧ Aside0 (Kd.R (Kd.int .i64) 3 W w.heap.size (fun _ => True) v7 (missL (tk ms t) i) ∧ Below w.heap.size w W))
    case atStart => exact ⟨0, rfl, by omega, ⟨Kd.R_nil _ _ _ _ _, HB1.out⟩⟩
    case round =>
      obtain ⟨i, rfl, hi, hA⟩ := hrel
      have HIW := Aside0.mk (HI.out.below hA.out.2)
      cases gk with
      | zero =>
        obtain rfl : i = G := by omega
        have b1 : decide (i < i) = false := decide_eq_false (by omega)
        clear hi
        go_wp2
        go_ret
        exact ⟨f, _, HB.out, hA.out.2, _, rfl, by rw [Int.toNat_natCast]; exact hA.out.1⟩
      | succ k2 =>
        have b1 : decide (i < G) = true := decide_eq_true (by omega)
        have hlim : ((missL (tk ms t) i).length + 1) * 8 ≤ 140737488355328 := by
          have := missL_len (tk ms t) i
          have := HGM.out
          omega
        have d0 := HIW.out.cell
        have do_ := HIW.out.outer t
        have di := HIW.out.inner t (i : Int) true
        have hst : missL (tk ms t) (i + 1) = missL (tk ms t) i ++ if (ck ms t (i : Int)).isSome = true then [] else [(i : Int)] := rfl
        obtain ⟨r, hr2⟩ : ∃ r, (ck ms t (i : Int)).getD zCk = r := ⟨_, rfl⟩
        obtain ⟨bo, hbo⟩ : ∃ bo, (ck ms t (i : Int)).isSome = bo := ⟨_, rfl⟩
        rw [hr2, hbo] at di
        rw [hbo] at hst
        have di2 : (Instr.lookup 95 (.map (tb ms t)) (.int .i64 (i : Int)) true).run Try.prog wr = .ok (.tuple #[.agg #[.int .i64 r.v.f0, .int .i64 r.v.f1, .bool r.v.f2, .slice r.A r.v.f3.length r.c], .bool bo]) wr := di
        have HST := Aside0.mk hst
        have HII := Aside0.mk hi
        have HLIM := Aside0.mk hlim
        have hr3 : ((i : Int) + 9223372036854775808 + 1) % 18446744073709551616 - 9223372036854775808 = (i : Int) + 1 := by
          have := HGM.out; omega
        clear di hst hi hr2 hbo hlim
        cases bo with
        | true =>
          go_wp2
          go_roundg k2
          case measure => omega
          case rel => exact ⟨i + 1, by simp, by have := HII.out; omega, ⟨by have hs := HST.out; simp only [if_true, List.append_nil] at hs; rw [hs]; exact Kd.R_alloc hA.out.1 _, below_alloc hA.out.2 _⟩⟩
        | false =>
          go_wp2_with ((with_reducible refine gate_builtin (b := .append) (xs := #[.tmp 35, .tmp 37]) rfl ?_); at_builtin; refine Kd.R_append (Kd.int .i64) (w0 := w) w.heap.size rfl (.tmp 35) (.tmp 37) 24 3 (.int .i64 0) 8 rfl Try.underlying24 info3 rfl (by decide) (by omega) u7 (missL (tk ms t) i) (i : Int) [.int .i64 (i : Int)] (fun _ => True) (fun _ => False) rfl (by first | (go_simp; done) | (go_simp; rfl)) rfl (fun _ h => h.elim) (fun _ _ => trivial) (Kd.R_alloc hA.out.1 _) (below_alloc hA.out.2 _) (below_alloc hA.out.2 _).size HLIM.out ?_; intro v5 w5 ho5 hb5 hg5 hat5; have HO5 := Aside0.mk ho5; have HB5 := Aside0.mk hb5; clear ho5 hb5 hg5 hat5)
          go_roundg k2
          case measure => omega
          case rel => exact ⟨i + 1, by simp, by have := HII.out; omega, ⟨by have hs := HST.out; simp only [Bool.false_eq_true, if_false] at hs; rw [hs]; exact HO5.out, HB5.out⟩⟩
end Go.Proofs.Ytogpjenmfgpfiaa.QProgressAssembler
