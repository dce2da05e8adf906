-- slim
-- Written by gen.py (this repo's wip/), which runs the kit's print.py with more arms. Lean checks it.
import Derived.Test.YtbfedkmiekbcmaaQQuerylangReadsx0
import Derived.Test.YtbfedkmiekbcmaaQQuerylangReadsx6
import Derived.Test.YtbfedkmiekbcmaaQQuerylangReadsx9
namespace Go.Proofs.Ytbfedkmiekbcmaa.QQuerylangReads
open Go.RowKit Go.Proofs.YtbfedkmiekbcmaaW.PrintWords Go.Proofs.YtbfedkmiekbcmaaW.PrintLast Go.Proofs.YtbfedkmiekbcmaaW.PrintMore
attribute [local go_sem] max2_int min2_int max_two min_two max_three min_three max_four min_four   -- for this text's walks alone
set_option linter.unusedVariables false
set_option linter.unusedSimpArgs false

section
open Go.Proofs.Ytbfedkmiekbcmaa.Hand
/-- What is told of the function that Exec is handed. -/
structure OracleR (B gf : Nat) (caps : Array Value) {σ : Type} (G : σ → Int → Int → Option (Int × Bool × σ)) (I : σ → (Nat → Prop) → World → Prop) : Prop where
 lt : ∀ {s S W} {k : Nat}, I s S W → S k → k < W.heap.size
 keep : ∀ {s S W W'}, I s S W → Chg (fun k => ¬ S k ∧ B ≤ k) W W' → I s S W'
 enters : ∀ args (w : World), (callFunc gf args).run Try.prog w = .ok (.enter gf args) w
 goes : ∀ {s S W k1 k2 n b s'}, I s S W → G s k1 k2 = some (n, b, s') →
  Calls Try.prog gf (#[.int .i64 k1, .int .i64 k2] ++ caps) W fun e w' => e = .returned (.tuple #[.int .i64 n, .bool b]) ∧ ∃ S', I s' S' w' ∧ Chg S W w' ∧ ∀ k, S' k → S k ∨ W.heap.size ≤ k
/-- What an instruction asks for, or what it comes to, and how many it takes. -/
def selR (own : Int) (op : S166) (x y : Int) : Option (Int × Int × Int × Int) :=
 if op.f0 = 1 then (glossatorref3_Mod.f op.f1 1000003).map (fun r => (-1, 0, r, 0))
 else if op.f0 = 2 then some (0, op.f1, 0, 0)
 else if op.f0 = 3 then some (1, op.f1, 0, 0)
 else if op.f0 = 4 then (if own = 0 then none else some (1, Int.tmod y own, 0, 1))
 else if op.f0 = 5 then (if y = 0 then some (1, op.f2, 0, 1) else some (1, op.f1, 0, 1))
 else if op.f0 = 6 then (glossatorref3_Mod.f (wrap64 (x + y)) 1000003).map (fun r => (-1, 0, r, 2))
 else if op.f0 = 7 then (glossatorref3_Mod.f (wrap64 (x - y)) 1000003).map (fun r => (-1, 0, r, 2))
 else if op.f0 = 8 then (glossatorref3_Mod.f (wrap64 (x * y)) 1000003).map (fun r => (-1, 0, r, 2))
 else if op.f0 = 9 then some (-1, 0, mn x y, 2)
 else if op.f0 = 10 then some (-1, 0, mx x y, 2)
 else some (-1, 0, if x < y then 1 else 0, 2)
theorem mod_some {a m r : Int} {k : Int → Int × Int × Int × Int} {q : Int × Int × Int × Int} (h : (glossatorref3_Mod.f a m).map k = some q) : ∃ r, q = k r := by
 obtain ⟨r, _, rfl⟩ := Option.map_eq_some_iff.1 h
 exact ⟨r, rfl⟩
theorem selR_pops {own : Int} {op : S166} {x y kind idx res pops : Int} (h : selR own op x y = some (kind, idx, res, pops)) : 0 ≤ pops ∧ pops ≤ 2 := by
 unfold selR at h
 repeat' split at h
 all_goals first
  | (obtain ⟨r, _, he⟩ := Option.map_eq_some_iff.1 h; injection he with _ he; injection he with _ he; injection he with _ he; omega)
  | (injection h with h; injection h with _ h; injection h with _ h; injection h with _ h; omega)
  | cases h
theorem stack_set (zs : List Int) (k : Nat) (n : Int) : ((zs.map (Value.int .i64)).toArray).setIfInBounds k (.int .i64 n) = ((zs.set k n).map (Value.int .i64)).toArray := by
 rw [List.setIfInBounds_toArray, List.map_set]
def topR (zs : List Int) (size j : Nat) : Int := if j < size then rd zs ((size - 1 - j : Nat) : Int) else 0
/-- One instruction: the stack (24 cells), how many stand on it. none: stopped, or out of the cells. -/
def stepR {σ : Type} (G : σ → Int → Int → Option (Int × Bool × σ)) (own : Int) (op : S166) (zs : List Int) (size : Nat) (s : σ) : Option (Option (List Int × Nat) × σ) :=
 (selR own op (topR zs size 1) (topR zs size 0)).bind fun q =>
 (if q.1 ≥ 0 then G s q.1 q.2.1 else some (q.2.2.1, true, s)).bind fun r =>
 if r.2.1 = true then (if 0 ≤ (size : Int) - q.2.2.2 ∧ (size : Int) - q.2.2.2 < 24 then some (some (zs.set ((size : Int) - q.2.2.2).toNat r.1, ((size : Int) - q.2.2.2).toNat + 1), r.2.2) else none) else some (none, r.2.2)
def execR {σ : Type} (G : σ → Int → Int → Option (Int × Bool × σ)) (own : Int) : List S166 → List Int → Nat → σ → Option (Int × Bool × σ)
 | [], zs, size, s => some (rd zs 0, true, s)
 | op :: t, zs, size, s => (stepR G own op zs size s).bind fun p => match p.1 with
  | none => some (0, false, p.2)
  | some q => execR G own t q.1 q.2 p.2
def zeros24 : List Int := [0, 0, 0, 0, 0, 0, 0, 0, 0, 0, 0, 0, 0, 0, 0, 0, 0, 0, 0, 0, 0, 0, 0, 0]
/-- The stack's block. -/
def stackObj (zs : List Int) : Obj := .cells (zs.map (Value.int .i64)).toArray 217 (0, 0)
def ExecI {σ : Type} (G : σ → Int → Int → Option (Int × Bool × σ)) (I : σ → (Nat → Prop) → World → Prop) (own : Int) (ops : List S166) (r : Int × Bool × σ) (S : Nat → Prop) (w : World) (i size : Nat) (W : World) : Prop :=
 ∃ (zs : List Int) (s1 : σ) (S1 : Nat → Prop), execR G own (ops.drop i) zs size s1 = some r ∧ zs.length = 24 ∧ size ≤ 24 ∧ W.heap[w.heap.size]? = some (stackObj zs) ∧
  I s1 S1 W ∧ Chg S w W ∧ w.heap.size < W.heap.size ∧ (∀ k, S1 k → S k ∨ w.heap.size < k)
def ExecPost {σ : Type} (I : σ → (Nat → Prop) → World → Prop) (r : Int × Bool × σ) (S : Nat → Prop) (w : World) (e : Ending) (w' : World) : Prop :=
 e = .returned (.tuple #[.int .i64 r.1, .bool r.2.1]) ∧ ∃ S', I r.2.2 S' w' ∧ Chg S w w' ∧ ∀ k, S' k → S k ∨ w.heap.size ≤ k
set_option maxHeartbeats 8000000 in
set_option maxRecDepth 100000 in
theorem exec_calls {σ : Type} {B gf : Nat} {caps : Array Value} {G : σ → Int → Int → Option (Int × Bool × σ)} {I : σ → (Nat → Prop) → World → Prop} (O : OracleR B gf caps G I) (A0 : Option Addr) (c0 : Nat) (ops : List S166) (own : Int) (s : σ) (r : Int × Bool × σ) (S : Nat → Prop) (w : World)
  (hops : ∀ W', Chg S w W' → Kd.C k166 W' A0 ops.length ops) (hc0 : ops.length ≤ c0) (hI : I s S w) (hS0 : ∀ k, S k → k < w.heap.size) (hB : B ≤ w.heap.size) (h : execR G own ops zeros24 0 s = some r) :
  Calls Try.prog 110 #[.slice A0 ops.length c0, .int .i64 own, .func (.func gf) #[] caps] w (ExecPost I r S w) := by
 have hlen : ops.length ≤ 9223372036854775807 := (hops w (Chg.refl _ _)).2.1
 have HOPS := Aside0.mk hops
 have HI := Aside0.mk hI
 have HS0 := Aside0.mk hS0
 have HBB := Aside0.mk hB
 have HO := Aside0.mk O
 have H := Aside0.mk h
 have HC := Aside0.mk hc0
 clear hops hI O h hc0 hS0 hB
 go_enter Try.func110, Try.ntmps110
 go_wp2
 go_loopg [9, 22] ops.length (fun kq v9 v22 W => ∃ (i size : Nat), v9 = .int .i64 (size : Int) ∧ v22 = .int .i64 (i : Int) ∧ kq + i = ops.length ∧ Aside0 (ExecI G I own ops r S w i size W))
 case atStart =>
  refine ⟨0, 0, rfl, rfl, by omega, ⟨zeros24, s, S, H.out, rfl, by omega, ?_, HO.out.keep HI.out (Chg.alloc _ _), Chg.alloc _ _, by simp, fun k hk => .inl hk⟩⟩
  exact hb_new _ _
 case round =>
  obtain ⟨i, size, rfl, rfl, hi, hR⟩ := hrel
  cases gk with
  | zero =>
   obtain rfl : i = ops.length := by omega
   obtain ⟨zs, s1, S1, hrun, hz, hsize, hb, hI, hch, hsz, hS⟩ := hR.out
   rw [List.drop_length] at hrun
   injection hrun with hrun
   subst hrun
   have hc0 : wr.cell? ⟨w.heap.size, 0, none⟩ = some (.int .i64 (rd zs 0)) := by
    rw [cells_of_blk hb]
    have : 0 < zs.length := by omega
    simp [rd, List.getD_eq_getElem?_getD, this]
   have HI1 := Aside0.mk hI
   have HCH := Aside0.mk hch
   have HS := Aside0.mk hS
   clear hI hch hS hb hi hR H HOPS HI HO
   go_wp2
   go_ret2
   exact ⟨rfl, S1, HI1.out, HCH.out, fun k hk => (HS.out k hk).imp_right Nat.le_of_lt⟩
  | succ k1 =>
   have hlt : i < ops.length := by omega
   obtain ⟨zs, s1, S1, hrun, hz, hsize, hb, hI, hch, hsz, hS⟩ := hR.out
   rw [List.drop_eq_getElem_cons hlt, execR] at hrun
   obtain ⟨⟨nx, s2⟩, hstep, hrun2⟩ := Option.bind_eq_some_iff.1 hrun
   obtain ⟨ad0, hA0, o0, o1, o2⟩ := at_T166 (HOPS.out wr hch) (i : Int) (by omega) (by omega)
   subst hA0
   have hop : rd_T166 ops (i : Int) = ops[i] := by simp [rd_T166, List.getD_eq_getElem?_getD, hlt]
   rw [hop, Int.toNat_natCast] at o0 o1 o2
   obtain ⟨op, hopn⟩ : ∃ op, ops[i] = op := ⟨_, rfl⟩
   rw [hopn] at o0 o1 o2 hstep
   clear hop hopn
   have p1 : (0 ≤ (i : Int)) = True := eq_true (by omega)
   have p2 : ((i : Int) < (ops.length : Int)) = True := eq_true (by omega)
   unfold stepR at hstep
   obtain ⟨⟨kind, idx, res, pops⟩, hsel, hstep⟩ := Option.bind_eq_some_iff.1 hstep
   have HI1 := Aside0.mk hI
   have HCH := Aside0.mk hch
   have HS := Aside0.mk hS
   have HR := Aside0.mk hrun2
   have HST := Aside0.mk hstep
   have HSEL := Aside0.mk hsel
   have HB := Aside0.mk hb
   have HZ := Aside0.mk hz
   clear hI hch hS hb hR H HI hrun hrun2 hstep hsel hz
   go_upto_region 7 with (fail)
   have hal : Chg (fun _ => False) wr (wr.alloc (.cells #[.int .i64 op.f0, .int .i64 op.f1, .int .i64 op.f2] 166)) := Chg.alloc _ _
   obtain ⟨wa, hwc⟩ : ∃ wa, wa = wr.alloc (.cells #[.int .i64 op.f0, .int .i64 op.f1, .int .i64 op.f2] 166) := ⟨_, rfl⟩
   have hob : wa.heap[wr.heap.size]? = some (.cells #[.int .i64 op.f0, .int .i64 op.f1, .int .i64 op.f2] 166 (0, 0)) := by rw [hwc]; exact hb_new _ _
   rw [← hwc] at hal ⊢
   have HAL := Aside0.mk hal
   have HOB := Aside0.mk hob
   have HZB := Aside0.mk (hal.at HB.out (fun h => h))
   clear hal hob hwc o0 o1 o2 p1 p2
   have zc : ∀ j : Nat, j < 24 → wa.cell? ⟨w.heap.size, j, none⟩ = some (.int .i64 (rd zs (j : Int))) := by
    intro j hj
    rw [cells_of_blk HZB.out]
    have hl := HZ.out
    have : j < zs.length := by omega
    simp [rd, List.getD_eq_getElem?_getD, this]
   have HZC := Aside0.mk zc
   clear zc
   have y1 : 0 < size → wa.cell? ⟨w.heap.size, size - 1, none⟩ = some (.int .i64 (topR zs size 0)) := by
    intro h
    rw [HZC.out (size - 1) (by omega)]
    unfold topR
    rw [if_pos h]
    rfl
   have y2 : 1 < size → wa.cell? ⟨w.heap.size, size - 2, none⟩ = some (.int .i64 (topR zs size 1)) := by
    intro h
    rw [HZC.out (size - 2) (by omega)]
    unfold topR
    rw [if_pos h]
    rfl
   go_upto_if 27 with (fail)
   go_cut [13] (fun v13 wx => v13 = .int .i64 (topR zs size 0) ∧ wx = wa)
   case first =>
    by_cases c : 0 < size
    ·have h1 := y1 c
     have b : decide ((size : Int) > 0) = true := by simp; omega
     have b2 : (size : Int) - 1 < 24 := by omega
     have b3 : 0 ≤ (size : Int) - 1 := by omega
     have b4 : ((size : Int) - 1).toNat = size - 1 := by omega
     go_wp2
     go_meet
     case rel => exact ⟨rfl, rfl⟩
    ·have b : decide ((size : Int) > 0) = false := by simp; omega
     go_wp2
     go_meet
     case rel => exact ⟨by unfold topR; rw [if_neg c], rfl⟩
   case rest =>
    obtain ⟨rfl, hwx⟩ := hcut
    have hwx2 := hwx.symm
    subst hwx2
    go_upto_if 33 with (fail)
    go_cut [12] (fun v12 wx => v12 = .int .i64 (topR zs size 1) ∧ wx = wa)
    case first =>
     by_cases c : 1 < size
     ·have h1 := y2 c
      have b : decide ((size : Int) > 1) = true := by simp; omega
      have b2 : (size : Int) - 2 < 24 := by omega
      have b3 : 0 ≤ (size : Int) - 2 := by omega
      have b4 : ((size : Int) - 2).toNat = size - 2 := by omega
      go_wp2
      go_meet
      case rel => exact ⟨rfl, rfl⟩
     ·have b : decide ((size : Int) > 1) = false := by simp; omega
      go_wp2
      go_meet
      case rel => exact ⟨by unfold topR; rw [if_neg c], rfl⟩
    case rest =>
     obtain ⟨rfl, hwx⟩ := hcut
     have hwx2 := hwx.symm
     subst hwx2
     have q0 : wa.cell? ⟨wr.heap.size, 0, none⟩ = some (.int .i64 op.f0) := (cells_of_blk HOB.out 0).trans rfl
     have q1 : wa.cell? ⟨wr.heap.size, 1, none⟩ = some (.int .i64 op.f1) := (cells_of_blk HOB.out 1).trans rfl
     have q2 : wa.cell? ⟨wr.heap.size, 2, none⟩ = some (.int .i64 op.f2) := (cells_of_blk HOB.out 2).trans rfl
     clear y1 y2
     obtain ⟨x, hx⟩ : ∃ x, topR zs size 1 = x := ⟨_, rfl⟩
     obtain ⟨y, hy⟩ : ∃ y, topR zs size 0 = y := ⟨_, rfl⟩
     rw [hx, hy] at HSEL
     rw [hx, hy]
     clear hx hy hstep
     go_upto_block 2 with (fail)
     go_cut [14, 15, 16, 17] (fun v14 v15 v16 v17 wx => v14 = .int .i64 kind ∧ v15 = .int .i64 idx ∧ v16 = .int .i64 res ∧ v17 = .int .i64 pops ∧ Aside0 (Drawn0 wa wx))
     case first =>
      unfold selR at HSEL
      by_cases c1 : op.f0 = 1
      ·have h := HSEL.out
       rw [if_pos c1] at h
       obtain ⟨m, hm, he⟩ := Option.map_eq_some_iff.1 h
       simp only [Prod.mk.injEq] at he
       obtain ⟨rfl, rfl, rfl, rfl⟩ := he
       have HM := Aside0.mk hm
       have b1 : (op.f0 == 1) = true := by simp [c1]
       clear h hm HSEL c1
       go_wp2_with (go_at_call 112; refine (glossatorref3_Mod.calls _ _ m _ HM.out).mono ?_; rintro e w4 ⟨rfl, ⟨nd, rfl⟩⟩)
       go_meet
       case rel => exact ⟨rfl, rfl, rfl, rfl, ⟨⟨_, rfl⟩⟩⟩
      ·have b1 : (op.f0 == 1) = false := by simp [c1]
       by_cases c2 : op.f0 = 2
       ·have h := HSEL.out
        rw [if_neg c1, if_pos c2] at h
        have b2 : (op.f0 == 2) = true := by simp [c2]
        injection h with h
        simp only [Prod.mk.injEq] at h
        obtain ⟨rfl, rfl, rfl, rfl⟩ := h
        clear HSEL c1 c2
        go_wp2
        go_quiet (fail)
        go_wp2
        go_meet
        case rel => exact ⟨rfl, rfl, rfl, rfl, ⟨by first | exact ⟨0, rfl⟩ | exact ⟨_, rfl⟩⟩⟩
       ·have b2 : (op.f0 == 2) = false := by simp [c2]
        by_cases c3 : op.f0 = 3
        ·have h := HSEL.out
         rw [if_neg c1, if_neg c2, if_pos c3] at h
         have b3 : (op.f0 == 3) = true := by simp [c3]
         injection h with h
         simp only [Prod.mk.injEq] at h
         obtain ⟨rfl, rfl, rfl, rfl⟩ := h
         clear HSEL c1 c2 c3
         go_wp2
         go_quiet (fail)
         go_wp2
         go_meet
         case rel => exact ⟨rfl, rfl, rfl, rfl, ⟨by first | exact ⟨0, rfl⟩ | exact ⟨_, rfl⟩⟩⟩
        ·have b3 : (op.f0 == 3) = false := by simp [c3]
         by_cases c4 : op.f0 = 4
         ·have h := HSEL.out
          rw [if_neg c1, if_neg c2, if_neg c3, if_pos c4] at h
          by_cases c0 : own = 0
          ·rw [if_pos c0] at h; cases h
          ·rw [if_neg c0] at h
           have b0 : (own == 0) = false := by simp [c0]
           have b4 : (op.f0 == 4) = true := by simp [c4]
           injection h with h
           simp only [Prod.mk.injEq] at h
           obtain ⟨rfl, rfl, rfl, rfl⟩ := h
           clear HSEL c1 c2 c3 c4
           go_wp2
           go_quiet (fail)
           go_wp2
           go_meet
           case rel => exact ⟨rfl, rfl, rfl, rfl, ⟨by first | exact ⟨0, rfl⟩ | exact ⟨_, rfl⟩⟩⟩
         ·have b4 : (op.f0 == 4) = false := by simp [c4]
          by_cases c5 : op.f0 = 5
          ·have h := HSEL.out
           rw [if_neg c1, if_neg c2, if_neg c3, if_neg c4, if_pos c5] at h
           by_cases cy : y = 0
           ·rw [if_pos cy] at h
            have by0 : (y == 0) = true := by simp [cy]
            clear cy
            have b5 : (op.f0 == 5) = true := by simp [c5]
            injection h with h
            simp only [Prod.mk.injEq] at h
            obtain ⟨rfl, rfl, rfl, rfl⟩ := h
            clear HSEL c1 c2 c3 c4 c5
            go_wp2
            go_quiet (fail)
            go_wp2
            go_meet
            case rel => exact ⟨rfl, rfl, rfl, rfl, ⟨by first | exact ⟨0, rfl⟩ | exact ⟨_, rfl⟩⟩⟩
           ·rw [if_neg cy] at h
            have by0 : (y == 0) = false := by simp [cy]
            clear cy
            have b5 : (op.f0 == 5) = true := by simp [c5]
            injection h with h
            simp only [Prod.mk.injEq] at h
            obtain ⟨rfl, rfl, rfl, rfl⟩ := h
            clear HSEL c1 c2 c3 c4 c5
            go_wp2
            go_quiet (fail)
            go_wp2
            go_meet
            case rel => exact ⟨rfl, rfl, rfl, rfl, ⟨by first | exact ⟨0, rfl⟩ | exact ⟨_, rfl⟩⟩⟩
          ·have b5 : (op.f0 == 5) = false := by simp [c5]
           by_cases c6 : op.f0 = 6
           ·have h := HSEL.out
            rw [if_neg c1, if_neg c2, if_neg c3, if_neg c4, if_neg c5, if_pos c6] at h
            obtain ⟨m, hm, he⟩ := Option.map_eq_some_iff.1 h
            simp only [Prod.mk.injEq] at he
            obtain ⟨rfl, rfl, rfl, rfl⟩ := he
            have HM := Aside0.mk hm
            have b6 : (op.f0 == 6) = true := by simp [c6]
            clear h hm HSEL c1 c2 c3 c4 c5 c6
            go_wp2_with (go_at_call 112; refine (glossatorref3_Mod.calls _ _ m _ HM.out).mono ?_; rintro e w4 ⟨rfl, ⟨nd, rfl⟩⟩)
            go_meet
            case rel => exact ⟨rfl, rfl, rfl, rfl, ⟨⟨_, rfl⟩⟩⟩
           ·have b6 : (op.f0 == 6) = false := by simp [c6]
            by_cases c7 : op.f0 = 7
            ·have h := HSEL.out
             rw [if_neg c1, if_neg c2, if_neg c3, if_neg c4, if_neg c5, if_neg c6, if_pos c7] at h
             obtain ⟨m, hm, he⟩ := Option.map_eq_some_iff.1 h
             simp only [Prod.mk.injEq] at he
             obtain ⟨rfl, rfl, rfl, rfl⟩ := he
             have HM := Aside0.mk hm
             have b7 : (op.f0 == 7) = true := by simp [c7]
             clear h hm HSEL c1 c2 c3 c4 c5 c6 c7
             go_wp2_with (go_at_call 112; refine (glossatorref3_Mod.calls _ _ m _ HM.out).mono ?_; rintro e w4 ⟨rfl, ⟨nd, rfl⟩⟩)
             go_meet
             case rel => exact ⟨rfl, rfl, rfl, rfl, ⟨⟨_, rfl⟩⟩⟩
            ·have b7 : (op.f0 == 7) = false := by simp [c7]
             by_cases c8 : op.f0 = 8
             ·have h := HSEL.out
              rw [if_neg c1, if_neg c2, if_neg c3, if_neg c4, if_neg c5, if_neg c6, if_neg c7, if_pos c8] at h
              obtain ⟨m, hm, he⟩ := Option.map_eq_some_iff.1 h
              simp only [Prod.mk.injEq] at he
              obtain ⟨rfl, rfl, rfl, rfl⟩ := he
              have HM := Aside0.mk hm
              have b8 : (op.f0 == 8) = true := by simp [c8]
              clear h hm HSEL c1 c2 c3 c4 c5 c6 c7 c8
              go_wp2_with (go_at_call 112; refine (glossatorref3_Mod.calls _ _ m _ HM.out).mono ?_; rintro e w4 ⟨rfl, ⟨nd, rfl⟩⟩)
              go_meet
              case rel => exact ⟨rfl, rfl, rfl, rfl, ⟨⟨_, rfl⟩⟩⟩
             ·have b8 : (op.f0 == 8) = false := by simp [c8]
              by_cases c9 : op.f0 = 9
              ·have h := HSEL.out
               rw [if_neg c1, if_neg c2, if_neg c3, if_neg c4, if_neg c5, if_neg c6, if_neg c7, if_neg c8, if_pos c9] at h
               have b9 : (op.f0 == 9) = true := by simp [c9]
               injection h with h
               simp only [Prod.mk.injEq] at h
               obtain ⟨rfl, rfl, rfl, rfl⟩ := h
               clear HSEL c1 c2 c3 c4 c5 c6 c7 c8 c9
               go_wp2
               all_goals
                go_meet
                case rel => exact ⟨rfl, rfl, by unfold mn; first | rw [if_pos (by omega)] | rw [if_neg (by omega)], rfl, ⟨⟨0, rfl⟩⟩⟩
              ·have b9 : (op.f0 == 9) = false := by simp [c9]
               by_cases c10 : op.f0 = 10
               ·have h := HSEL.out
                rw [if_neg c1, if_neg c2, if_neg c3, if_neg c4, if_neg c5, if_neg c6, if_neg c7, if_neg c8, if_neg c9, if_pos c10] at h
                have b10 : (op.f0 == 10) = true := by simp [c10]
                injection h with h
                simp only [Prod.mk.injEq] at h
                obtain ⟨rfl, rfl, rfl, rfl⟩ := h
                clear HSEL c1 c2 c3 c4 c5 c6 c7 c8 c9 c10
                go_wp2
                all_goals
                 go_meet
                 case rel => exact ⟨rfl, rfl, by unfold mx; first | rw [if_pos (by omega)] | rw [if_neg (by omega)], rfl, ⟨⟨0, rfl⟩⟩⟩
               ·have b10 : (op.f0 == 10) = false := by simp [c10]
                have h := HSEL.out
                rw [if_neg c1, if_neg c2, if_neg c3, if_neg c4, if_neg c5, if_neg c6, if_neg c7, if_neg c8, if_neg c9, if_neg c10] at h
                injection h with h
                simp only [Prod.mk.injEq] at h
                by_cases cl : x < y
                ·rw [if_pos cl] at h
                 have bl : decide (x < y) = true := by simp [cl]
                 obtain ⟨rfl, rfl, rfl, rfl⟩ := h
                 clear HSEL cl c1 c2 c3 c4 c5 c6 c7 c8 c9 c10
                 go_wp2
                 go_meet
                 case rel => exact ⟨rfl, rfl, rfl, rfl, ⟨⟨0, rfl⟩⟩⟩
                ·rw [if_neg cl] at h
                 have bl : decide (x < y) = false := by simp [cl]
                 obtain ⟨rfl, rfl, rfl, rfl⟩ := h
                 clear HSEL cl c1 c2 c3 c4 c5 c6 c7 c8 c9 c10
                 go_wp2
                 go_meet
                 case rel => exact ⟨rfl, rfl, rfl, rfl, ⟨⟨0, rfl⟩⟩⟩
     case rest =>
      obtain ⟨rfl, rfl, rfl, rfl, HDR⟩ := hcut
      have hpp := selR_pops HSEL.out
      have hdr : Chg (fun _ => False) wr wc := HAL.out.trans (Chg.drawn HDR.out) (fun _ _ h => h)
      have HBW := Aside0.mk (hdr.at HB.out (fun h => h))
      have HIW := Aside0.mk (HO.out.keep HI1.out (hdr.mono (fun _ _ h => h.elim)))
      have HCW := Aside0.mk (HCH.out.trans (hdr.mono (T := S) (fun _ _ h => h.elim)) (fun _ _ h => h))
      have hnsb : ¬ S1 w.heap.size := fun h => by rcases HS.out _ h with h | h; (have := HS0.out _ h; omega); omega
      have HNSB := Aside0.mk hnsb
      clear hdr hnsb HAL HOB HZB HZC q0 q1 q2 HDR HSEL
      obtain ⟨⟨n, b, s3⟩, hr1, hr2⟩ := Option.bind_eq_some_iff.1 HST.out
      have HR1 := Aside0.mk hr1
      have HR2 := Aside0.mk (show (if b = true then (if 0 ≤ (size : Int) - pops ∧ (size : Int) - pops < 24 then some (some (zs.set ((size : Int) - pops).toNat n, ((size : Int) - pops).toNat + 1), s3) else none) else some (none, s3)) = some (nx, s2) from hr2)
      clear hr1 hr2 HST
      have hen := HO.out.enters
      by_cases ck : kind ≥ 0
      ·have bk : decide (kind ≥ 0) = true := by simpa using ck
       have hg : G s1 kind idx = some (n, b, s3) := by have h := HR1.out; rwa [if_pos ck] at h
       have HG := Aside0.mk hg
       clear hg ck HR1
       cases b with
       | false =>
        have h2 := HR2.out
        rw [if_neg (by simp)] at h2
        injection h2 with h2
        injection h2 with h3 h4
        subst h3 h4
        have h5 := HR.out
        have h6 : (0, false, s3) = r := Option.some.inj h5
        subst h6
        clear h5 HR HR2
        go_wp2_with (((with_reducible refine (HO.out.goes HIW.out HG.out).mono ?_); rintro e w4 ⟨rfl, S4, hI4, hc4, hS4⟩))
        go_ret2
        exact ⟨rfl, S4, hI4, HCW.out.trans hc4 (fun k hk h => (HS.out k h).resolve_right (by omega)), fun k hk => (hS4 k hk).elim (fun h => (HS.out k h).imp_right Nat.le_of_lt) (fun h => .inr (Nat.le_trans HCW.out.size h))⟩
       | true =>
        have h2 := HR2.out
        rw [if_pos rfl] at h2
        split at h2
        ·next hrg =>
         injection h2 with h2
         injection h2 with h3 h4
         subst h3 h4
         clear HR2
         go_upto_region 43 with (((with_reducible refine (HO.out.goes HIW.out HG.out).mono ?_); rintro e w4 ⟨rfl, S4, hI4, hc4, hS4⟩))
         have HB4 := Aside0.mk (hc4.at HBW.out HNSB.out)
         have HI4 := Aside0.mk hI4
         have HC4 := Aside0.mk (HCW.out.trans hc4 (fun k hk h => (HS.out k h).resolve_right (by omega)))
         have HS4 := Aside0.mk (fun (k : Nat) (hk : S4 k) => (hS4 k hk).elim (HS.out k) (fun h => .inr (Nat.lt_of_lt_of_le (lt_of_blk HBW.out) h)))
         have HNS4 := Aside0.mk (show ¬ S4 w.heap.size from fun h => by rcases HS4.out _ h with h | h; (have := HS0.out _ h; omega); omega)
         have hr1_ := hc4
         clear hI4 hc4 hS4
         obtain ⟨k, hk⟩ : ∃ k : Nat, (size : Int) - pops = (k : Int) := ⟨((size : Int) - pops).toNat, by omega⟩
         have hkt : ((size : Int) - pops).toNat = k := by omega
         have hrun := HR.out
         rw [hkt] at hrun
         have hk24 : k < 24 := by omega
         have HRK := Aside0.mk (show execR G own (List.drop (i + 1) ops) (zs.set k n) (k + 1) s3 = some r from hrun)
         have cz : w4.cell? ⟨w.heap.size, k, none⟩ = some (.int .i64 (rd zs (k : Int))) := by
          rw [cells_of_blk HB4.out]
          have hl := HZ.out
          have : k < zs.length := by omega
          simp [rd, List.getD_eq_getElem?_getD, this]
         have cf : w4.frozen? ⟨w.heap.size, k, none⟩ = false := free_of_blk HB4.out k
         have hk0 : (0 : Int) ≤ (k : Int) := by omega
         have hk1 : (k : Int) < 24 := by omega
         have HF : Aside0 (ExecI G I own ops r S w (i + 1) (k + 1) (w4.setCell ⟨w.heap.size, k, none⟩ (.int .i64 n))) := by
          refine ⟨⟨zs.set k n, s3, S4, HRK.out, by rw [List.length_set]; exact HZ.out, by omega, ?_, ?_, ?_, ?_, HS4.out⟩⟩
          ·have := hb_set HB4.out k (.int .i64 n)
           rw [stack_set] at this
           exact this
          ·exact HO.out.keep HI4.out (Chg.set _ _ _ ⟨HNS4.out, HBB.out⟩)
          ·exact HC4.out.trans (Chg.set (S := fun j => j = w.heap.size) _ _ _ rfl) (fun j hj e => by omega)
          ·simpa using lt_of_blk HB4.out
         clear hrun hkt hr1_ hrg HR
         go_wp2
         go_roundg k1
         case measure => omega
         case rel => exact ⟨i + 1, k + 1, by first | rfl | (congr 1; omega), by first | rfl | (congr 1; omega), by omega, HF⟩
        ·cases h2
      ·have bk : decide (kind ≥ 0) = false := by simpa using ck
       have hg : some (res, true, s1) = some (n, b, s3) := by have h := HR1.out; rwa [if_neg ck] at h
       injection hg with hg
       simp only [Prod.mk.injEq] at hg
       obtain ⟨rfl, rfl, rfl⟩ := hg
       clear ck HR1
       have h2 := HR2.out
       rw [if_pos rfl] at h2
       split at h2
       ·next hrg =>
        injection h2 with h2
        injection h2 with h3 h4
        subst h3 h4
        clear HR2
        go_upto_region 43 with (fail)
        obtain ⟨S4, hS4⟩ : ∃ S4, S4 = S1 := ⟨_, rfl⟩
        have HB4 := HBW
        have HI4 := HIW
        have HC4 := HCW
        have HS4 := HS
        have HNS4 := HNSB
        rw [← hS4] at HI4 HS4 HNS4
        have hr1_ := hS4
        clear hS4
        obtain ⟨k, hk⟩ : ∃ k : Nat, (size : Int) - pops = (k : Int) := ⟨((size : Int) - pops).toNat, by omega⟩
        have hkt : ((size : Int) - pops).toNat = k := by omega
        have hrun := HR.out
        rw [hkt] at hrun
        have hk24 : k < 24 := by omega
        have HRK := Aside0.mk (show execR G own (List.drop (i + 1) ops) (zs.set k res) (k + 1) s1 = some r from hrun)
        have cz : wc.cell? ⟨w.heap.size, k, none⟩ = some (.int .i64 (rd zs (k : Int))) := by
         rw [cells_of_blk HB4.out]
         have hl := HZ.out
         have : k < zs.length := by omega
         simp [rd, List.getD_eq_getElem?_getD, this]
        have cf : wc.frozen? ⟨w.heap.size, k, none⟩ = false := free_of_blk HB4.out k
        have hk0 : (0 : Int) ≤ (k : Int) := by omega
        have hk1 : (k : Int) < 24 := by omega
        have HF : Aside0 (ExecI G I own ops r S w (i + 1) (k + 1) (wc.setCell ⟨w.heap.size, k, none⟩ (.int .i64 res))) := by
         refine ⟨⟨zs.set k res, s1, S4, HRK.out, by rw [List.length_set]; exact HZ.out, by omega, ?_, ?_, ?_, ?_, HS4.out⟩⟩
         ·have := hb_set HB4.out k (.int .i64 res)
          rw [stack_set] at this
          exact this
         ·exact HO.out.keep HI4.out (Chg.set _ _ _ ⟨HNS4.out, HBB.out⟩)
         ·exact HC4.out.trans (Chg.set (S := fun j => j = w.heap.size) _ _ _ rfl) (fun j hj e => by omega)
         ·simpa using lt_of_blk HB4.out
        clear hrun hkt hr1_ hrg HR
        go_wp2
        go_roundg k1
        case measure => omega
        case rel => exact ⟨i + 1, k + 1, by first | rfl | (congr 1; omega), by first | rfl | (congr 1; omega), by omega, HF⟩
       ·cases h2

/-- What a query reads while Values computes: inputs, and the values so far. -/
def valG (ins vs : List Int) (_ : Unit) (kind idx : Int) : Option (Int × Bool × Unit) :=
 if kind = 0 then (if 0 ≤ idx ∧ idx < (ins.length : Int) then (glossatorref3_Mod.f (rd ins idx) 1000003).map (fun n => (n, true, ())) else none)
 else (if 0 ≤ idx ∧ idx < (vs.length : Int) then some (rd vs idx, true, ()) else none)
set_option maxRecDepth 100000 in
set_option maxHeartbeats 4000000 in
theorem values1_calls (b3 b5 : Nat) (AI : Option Addr) (ci : Nat) (ins : List Int) (AV : Option Addr) (cv : Nat) (vs : List Int) (k1 k2 n : Int) (b : Bool) (W : World) (h3 : W.heap[b3]? = some (.cells #[.slice AI ins.length ci] 22 (0, 0))) (h5 : W.heap[b5]? = some (.cells #[.slice AV vs.length cv] 22 (0, 0)))
  (hi : Kd.C (Kd.int .i64) W AI ins.length ins) (hv : Kd.C (Kd.int .i64) W AV vs.length vs) (h : valG ins vs () k1 k2 = some (n, b, ())) :
  Calls Try.prog 111 #[.int .i64 k1, .int .i64 k2, .pointer (some ⟨b3, 0, none⟩), .pointer (some ⟨b5, 0, none⟩)] W fun e w' => e = .returned (.tuple #[.int .i64 n, .bool b]) ∧ Drawn0 W w' := by
 unfold valG at h
 have c3 := cell_of_blk h3
 have c5 := cell_of_blk h5
 by_cases c1 : k1 = 0
 ·rw [if_pos c1] at h
  split at h
  ·next hr =>
   obtain ⟨m, hm, he⟩ := Option.map_eq_some_iff.1 h
   injection he with e1 he
   injection he with e2 _
   subst e1 e2
   obtain ⟨ad, hA, hx⟩ := Kd.at_int hi k2 hr.1 hr.2
   have p1 := eq_true hr.1
   have p2 := eq_true hr.2
   have b1 : (k1 == 0) = true := by simp [c1]
   have HM := Aside0.mk hm
   subst hA
   clear h hm hr c1 hi hv h3 h5
   go_enter Try.func111, Try.ntmps111
   go_wp2_with (go_at_call 112; refine (glossatorref3_Mod.calls _ _ m _ HM.out).mono ?_; rintro e w4 ⟨rfl, ⟨nd, rfl⟩⟩)
   go_ret2
   exact ⟨rfl, ⟨_, rfl⟩⟩
  ·cases h
 ·rw [if_neg c1] at h
  split at h
  ·next hr =>
   injection h with he
   injection he with e1 he
   injection he with e2 _
   subst e1 e2
   obtain ⟨ad, hA, hx⟩ := Kd.at_int hv k2 hr.1 hr.2
   have p1 := eq_true hr.1
   have p2 := eq_true hr.2
   have b1 : (k1 == 0) = false := by simp [c1]
   subst hA
   clear hr c1 hi hv h3 h5
   try clear h
   go_enter Try.func111, Try.ntmps111
   go_wp2
   go_ret2
   exact ⟨rfl, Drawn0.refl _⟩
  ·cases h
theorem values1_oracle (b3 b5 : Nat) (AI : Option Addr) (ci : Nat) (ins : List Int) (AV : Option Addr) (cv : Nat) (vs : List Int) (W0 : World) (h3 : W0.heap[b3]? = some (.cells #[.slice AI ins.length ci] 22 (0, 0))) (h5 : W0.heap[b5]? = some (.cells #[.slice AV vs.length cv] 22 (0, 0)))
  (hi : Kd.C (Kd.int .i64) W0 AI ins.length ins) (hv : Kd.C (Kd.int .i64) W0 AV vs.length vs) :
  OracleR W0.heap.size 111 #[.pointer (some ⟨b3, 0, none⟩), .pointer (some ⟨b5, 0, none⟩)] (valG ins vs) (fun _ S W => (∀ k, ¬ S k) ∧ Below W0.heap.size W0 W) where
 lt := fun h hk => absurd hk (h.1 _)
 keep := fun h hc => ⟨h.1, h.2.trans (hc.to_below (fun k _ e => e.2) h.2.size)⟩
 enters := fun args w => enters_ Try.func111 (by kernel_rfl) rfl args w
 goes := fun {s S W k1 k2 n b s'} h hg => by
  refine (values1_calls b3 b5 AI ci ins AV cv vs k1 k2 n b W ((h.2.block _ (lt_of_blk h3)).trans h3) ((h.2.block _ (lt_of_blk h5)).trans h5) (Kd.C_below hi h.2) (Kd.C_below hv h.2) hg).mono ?_
  rintro e w' ⟨rfl, hd⟩
  have hc : Chg S W w' := Chg.drawn hd
  exact ⟨rfl, S, ⟨h.1, h.2.trans ((Chg.drawn hd : Chg (fun _ => False) W w').to_below (fun _ _ e => e.elim) h.2.size)⟩, hc, fun k hk => .inl hk⟩
def valsL (ins : List Int) : Nat → List (List S166) → List Int → Option (List Int)
 | _, [], vs => some vs
 | own, q :: t, vs => (execR (valG ins vs) (own : Int) q zeros24 0 ()).bind fun r => if vs.length < 17592186044416 then valsL ins (own + 1) t (vs ++ [r.1]) else none
def glossatorref3_Values.f (_ : Int) (qs : List (List S166)) (ins : List Int) : Option (List Int) := valsL ins 0 qs []
def ValI (AI : Option Addr) (ci : Nat) (ins : List Int) (qs : List (List S166)) (r : List Int) (w : World) (i : Nat) (W : World) : Prop :=
 ∃ (vs : List Int) (v : Value), valsL ins i (qs.drop i) vs = some r ∧ W.heap[w.heap.size + 1]? = some (.cells #[.slice AI ins.length ci] 22 (0, 0)) ∧ W.heap[w.heap.size + 2]? = some (.cells #[v] 22 (0, 0)) ∧ Kd.R (Kd.int .i64) 3 W (w.heap.size + 3) (fun _ => True) v vs ∧ Below w.heap.size w W
set_option maxRecDepth 100000 in
set_option maxHeartbeats 4000000 in
theorem glossatorref3_Values.calls (a0_0 : Int) (A0_1 : Option Addr) (c0_1 : Nat) (l0_1 : List (List (S166))) (A1 : Option Addr) (c1 : Nat) (l1 : List Int) (r : List Int) (w : World) (hr0_1 : Kd.C (Kd.slice 166 k166) w A0_1 l0_1.length l0_1) (hc0_1 : l0_1.length ≤ c0_1) (hr1 : Kd.C (Kd.int .i64) w A1 l1.length l1) (hc1 : l1.length ≤ c1) (h : glossatorref3_Values.f a0_0 l0_1 l1 = some r) :
  Calls Try.prog 61 #[.agg #[.int .i64 a0_0, .slice A0_1 l0_1.length c0_1], .slice A1 l1.length c1] w fun e w' => ∃ v0_ : Value, e = .returned (v0_) ∧ Kd.R (Kd.int .i64) 3 w' w.heap.size (fun _ => True) v0_ r ∧ Below w.heap.size w w' := by
 unfold glossatorref3_Values.f at h
 have HQ := Aside0.mk hr0_1
 have HCQ := Aside0.mk hc0_1
 have HI := Aside0.mk hr1
 have HCI := Aside0.mk hc1
 have H := Aside0.mk h
 have hlen := hr0_1.2.1
 clear hr0_1 hc0_1 hr1 hc1 h
 go_enter Try.func61, Try.ntmps61
 go_wp2
 go_loopg [13] l0_1.length (fun kq v13 W => ∃ i : Nat, v13 = .int .i64 (i : Int) ∧ kq + i = l0_1.length ∧ Aside0 (ValI A1 c1 l1 l0_1 r w i W))
 case atStart =>
  refine ⟨0, rfl, by omega, ⟨[], .slice none 0 0, H.out, ?_, ?_, Kd.R_nil _ _ _ _ _, below_alloc (below_alloc (below_alloc (Below.refl _ _) _) _) _⟩⟩
  ·have h1 := hb_new (w.alloc (.cells #[.int .i64 a0_0, .slice A0_1 l0_1.length c0_1] 97)) (.cells #[.slice A1 l1.length c1] 22)
   rw [World.size_alloc] at h1
   exact hb_alloc h1
  ·have h1 := hb_new ((w.alloc (.cells #[.int .i64 a0_0, .slice A0_1 l0_1.length c0_1] 97)).alloc (.cells #[.slice A1 l1.length c1] 22)) (.cells #[.slice none 0 0] 22)
   rw [World.size_alloc, World.size_alloc] at h1
   exact h1
 case round =>
  obtain ⟨i, rfl, hi, hR⟩ := hrel
  cases gk with
  | zero =>
   obtain rfl : i = l0_1.length := by omega
   obtain ⟨vs, v, hrun, hb3, hb5, hv, hbel⟩ := hR.out
   rw [List.drop_length] at hrun
   injection hrun with hrun
   subst hrun
   have c5 := cell_of_blk hb5
   have HV := Aside0.mk hv
   have HBL := Aside0.mk hbel
   clear hv hbel hb3 hb5 hR H HQ HI hi
   go_wp2
   go_ret
   exact ⟨_, rfl, Kd.R_lower HV.out (by omega), HBL.out⟩
  | succ k1 =>
   have hlt : i < l0_1.length := by omega
   obtain ⟨vs, v, hrun, hb3, hb5, hv, hbel⟩ := hR.out
   rw [List.drop_eq_getElem_cons hlt, valsL] at hrun
   obtain ⟨⟨n, b, _⟩, hex, hrun2⟩ := Option.bind_eq_some_iff.1 hrun
   split at hrun2
   ·next hlim =>
    obtain ⟨ad, AO, co, hA, hx, hlo, hro⟩ := at_q (Kd.C_below HQ.out hbel) (i : Int) (by omega) (by omega)
    have hq : rdq l0_1 (i : Int) = l0_1[i] := by simp [rdq, List.getD_eq_getElem?_getD, hlt]
    rw [hq, Int.toNat_natCast] at hx
    rw [hq] at hlo hro
    obtain ⟨q, hqq⟩ : ∃ q, l0_1[i] = q := ⟨_, rfl⟩
    rw [hqq] at hx hlo hro hex
    clear hq hqq
    obtain ⟨V, cv, hvs⟩ := Kd.R_slice hv
    subst hvs
    have p1 : (0 ≤ (i : Int)) = True := eq_true (by omega)
    have p2 : ((i : Int) < (l0_1.length : Int)) = True := eq_true (by omega)
    obtain ⟨_, hvc, hvr⟩ := Kd.R_reads' hv
    have OR := values1_oracle (w.heap.size + 1) (w.heap.size + 2) A1 c1 l1 V cv vs wr hb3 hb5 (Kd.C_below HI.out hbel) hvr
    have c5 := cell_of_blk hb5
    have HOR := Aside0.mk OR
    have HV := Aside0.mk hv
    have HBL := Aside0.mk hbel
    have HB3 := Aside0.mk hb3
    have HB5 := Aside0.mk hb5
    have HEX := Aside0.mk hex
    have HRN := Aside0.mk hrun2
    have HLIM := Aside0.mk hlim
    have HRO := Aside0.mk hro
    have HLO := Aside0.mk hlo
    have hlen2 := hro.2.1
    clear OR hv hbel hb3 hb5 hex hrun2 hlim hro hlo hrun hR H hvc hvr
    subst hA
    go_upto_region 6 with (go_at_call 110; refine (exec_calls HOR.out AO co q (i : Int) () (n, b, ()) (fun _ => False) _ (fun W' hc => Kd.C_below HRO.out (hc.to_below (fun _ _ e => e.elim) (Nat.le_refl _))) HLO.out ⟨fun _ h => h, Below.refl _ _⟩ (fun _ h => h.elim) (Nat.le_refl _) HEX.out).mono ?_; rintro e w4 ⟨rfl, S4, hI4, hc4, hS4⟩)
    have hb4 := hI4.2
    have hb5 := (hb4.block _ (lt_of_blk HB5.out)).trans HB5.out
    have hb3 := (hb4.block _ (lt_of_blk HB3.out)).trans HB3.out
    have s5 := cell_of_blk hb5
    have HV4 := Aside0.mk (Kd.R_below HV.out hb4)
    have HB54 := Aside0.mk hb5
    have HB34 := Aside0.mk hb3
    have HBL4 := Aside0.mk (HBL.out.trans (hb4.mono HBL.out.size))
    clear hI4 hc4 hS4 hb4 hb5 hb3 c5 hx
    go_wp2_with (first | ((with_reducible refine gate_builtin (b := .append) (xs := #[.tmp 25, .tmp 27]) rfl ?_); at_builtin; refine Kd.R_append (Kd.int .i64) (w0 := w4) (w.heap.size + 3) rfl (.tmp 25) (.tmp 27) 22 3 (.int .i64 0) 8 rfl Try.underlying22 info_3 rfl (by decide) (by omega) (.slice V vs.length cv) vs n [.int .i64 n] (fun _ => True) (fun _ => False) rfl rfl rfl (fun _ h => h.elim) (fun _ _ => trivial) HV4.out (Below.refl _ _) (by have := lt_of_blk HB54.out; omega) (by have := HLIM.out; omega) ?_; intro v5 w5 ho hb hg hat; (obtain ⟨V5, c5, hv5⟩ := Kd.R_slice ho); (rw [List.length_append, List.length_singleton] at hv5); subst hv5; (have s6 := cell_of_blk ((hb.block _ (by omega)).trans HB54.out)); (have f6 := free_of_blk ((hb.block _ (by omega)).trans HB54.out) 0); (have HO5 := Aside0.mk ho); (have HB5_ := Aside0.mk hb); clear ho hb hg hat s5))
    go_roundg k1
    case measure => omega
    case rel =>
     refine ⟨i + 1, by first | rfl | (congr 1; unfold wrap64; omega), by omega, ⟨vs ++ [n], .slice V5 (vs.length + 1) c5, HRN.out, ?_, ?_, ?_, ?_⟩⟩
     ·exact hb_far ((HB5_.out.block _ (by omega)).trans HB34.out) (by show w.heap.size + 1 ≠ w.heap.size + 2; omega) _
     ·exact hb_set ((HB5_.out.block _ (by omega)).trans HB54.out) 0 _
     ·exact Kd.R_mono (Kd.R_step (Kd.R_bound HO5.out) (fun k hk _ => Below.heap_setCell _ _ _ _ (by have := hk.2.1; show k ≠ w.heap.size + 2; omega))) (fun _ _ => trivial)
     ·exact (HBL4.out.trans (HB5_.out.mono (by omega))).setCell (p := ⟨w.heap.size + 2, 0, none⟩) (by show w.heap.size ≤ w.heap.size + 2; omega) _
   ·cases hrun2
end

end Go.Proofs.Ytbfedkmiekbcmaa.QQuerylangReads
