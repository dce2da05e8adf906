-- Written by gen.py (this repo's wip/), which runs the kit's print.py with more arms. Lean checks it.
import Derived.Test.YtglckkkjfcomlaaQFixpointProofsx0
namespace Go.Proofs.Ytglckkkjfcomlaa.QFixpointProofs
open Go.RowKit Go.Proofs.YtglckkkjfcomlaaW.PrintWords Go.Proofs.YtglckkkjfcomlaaW.PrintLast Go.Proofs.YtglckkkjfcomlaaW.PrintMore
attribute [local go_sem] max2_int min2_int max_two min_two max_three min_three max_four min_four   -- for this text's walks alone
set_option linter.unusedVariables false
set_option linter.unusedSimpArgs false

private theorem isEmpty_bne {α : Type} [BEq α] (l : List α) : (l != []) = !l.isEmpty := by cases l <;> rfl

/-! ### glossatorref3_CheckRules: function 27 -/
mutual
def glossatorref3_CheckRules.l0 : Nat → List (List (S58)) → Bool → List (List (S58)) → Int → Int → Option (Int)
 | 0, _, _, _, _, _ => none
 | k + 1, x0, x3, x17, x18, x19 => if x19 < x18 then (if 0 ≤ x19 then (if x19 < (x17.length : Int) then (if x3 = true then (glossatorref3_CheckRules.j1 k x0 true (rd_L3 x17 x19) x17 x18 x19) else (glossatorref3_CheckRules.j1 k x0 (decide (((rd_L3 x17 x19).length : Int) > 20)) (rd_L3 x17 x19) x17 x18 x19)) else (none)) else (none)) else (if x3 = true then (some 2) else (glossatorref3_CheckRules.l2 k x0 x0 (x0.length : Int) 0))
def glossatorref3_CheckRules.j1 : Nat → List (List (S58)) → Bool → List (S58) → List (List (S58)) → Int → Int → Option (Int)
 | 0, _, _, _, _, _, _ => none
 | k + 1, x0, x3, x5, x17, x18, x19 => glossatorref3_CheckRules.l1 k x0 x3 x17 x18 x19 x5 (x5.length : Int) 0
def glossatorref3_CheckRules.l1 : Nat → List (List (S58)) → Bool → List (List (S58)) → Int → Int → List (S58) → Int → Int → Option (Int)
 | 0, _, _, _, _, _, _, _, _ => none
 | k + 1, x0, x3, x17, x18, x19, x29, x30, x31 => if x31 < x30 then (if 0 ≤ x31 then (if x31 < (x29.length : Int) then (if x3 = true then (glossatorref3_CheckRules.l1 k x0 true x17 x18 x19 x29 x30 (wrap64 (x31 + 1))) else (glossatorref3_CheckRules.l1 k x0 (decide ((((rd_T58 x29 x31).f1).length : Int) > 60)) x17 x18 x19 x29 x30 (wrap64 (x31 + 1)))) else (none)) else (none)) else (glossatorref3_CheckRules.l0 k x0 x3 x17 x18 (wrap64 (x19 + 1)))
def glossatorref3_CheckRules.l2 : Nat → List (List (S58)) → List (List (S58)) → Int → Int → Option (Int)
 | 0, _, _, _, _ => none
 | k + 1, x0, x45, x46, x47 => if x47 < x46 then (if 0 ≤ x47 then (if x47 < (x45.length : Int) then (glossatorref3_CheckRules.l3 k x0 x45 x46 x47 (rd_L3 x45 x47) ((rd_L3 x45 x47).length : Int) 0) else (none)) else (none)) else (some 0)
def glossatorref3_CheckRules.l3 : Nat → List (List (S58)) → List (List (S58)) → Int → Int → List (S58) → Int → Int → Option (Int)
 | 0, _, _, _, _, _, _, _ => none
 | k + 1, x0, x45, x46, x47, x51, x52, x53 => if x53 < x52 then (if 0 ≤ x53 then (if x53 < (x51.length : Int) then (if ((rd_T58 x51 x53).f0) < 0 then (glossatorref3_CheckRules.j5 k x0 x45 x46 x47 x51 x52 x53 true ((rd_T58 x51 x53).f0) ((rd_T58 x51 x53).f1)) else (glossatorref3_CheckRules.j5 k x0 x45 x46 x47 x51 x52 x53 (decide (((rd_T58 x51 x53).f0) ≥ 1048576)) ((rd_T58 x51 x53).f0) ((rd_T58 x51 x53).f1))) else (none)) else (none)) else (glossatorref3_CheckRules.l2 k x0 x45 x46 (wrap64 (x47 + 1)))
def glossatorref3_CheckRules.j5 : Nat → List (List (S58)) → List (List (S58)) → Int → Int → List (S58) → Int → Int → Bool → Int → List Int → Option (Int)
 | 0, _, _, _, _, _, _, _, _, _, _ => none
 | k + 1, x0, x45, x46, x47, x51, x52, x53, x64, x210000, x210001 => if x64 = true then (some 1) else (glossatorref3_CheckRules.l4 k x0 x45 x46 x47 x51 x52 x53 x210001 (x210001.length : Int) 0)
def glossatorref3_CheckRules.l4 : Nat → List (List (S58)) → List (List (S58)) → Int → Int → List (S58) → Int → Int → List Int → Int → Int → Option (Int)
 | 0, _, _, _, _, _, _, _, _, _, _ => none
 | k + 1, x0, x45, x46, x47, x51, x52, x53, x66, x67, x68 => if x68 < x67 then (if 0 ≤ x68 then (if x68 < (x66.length : Int) then (if (rd x66 x68) < 0 then (some 3) else (if (rd x66 x68) ≥ (x0.length : Int) then (some 3) else (glossatorref3_CheckRules.l4 k x0 x45 x46 x47 x51 x52 x53 x66 x67 (wrap64 (x68 + 1))))) else (none)) else (none)) else (glossatorref3_CheckRules.l3 k x0 x45 x46 x47 x51 x52 (wrap64 (x53 + 1)))
end
def glossatorref3_CheckRules.f (k : Nat) (l0 : List (List (S58))) : Option (Int) := glossatorref3_CheckRules.l0 k l0 (decide ((l0.length : Int) > 60)) l0 (l0.length : Int) 0
theorem glossatorref3_CheckRules.mono_l : ∀ k, (∀ y0 y1 y2 y3 y4, LeO (glossatorref3_CheckRules.l0 k y0 y1 y2 y3 y4) (glossatorref3_CheckRules.l0 (k + 1) y0 y1 y2 y3 y4)) ∧ (∀ y0 y1 y2 y3 y4 y5, LeO (glossatorref3_CheckRules.j1 k y0 y1 y2 y3 y4 y5) (glossatorref3_CheckRules.j1 (k + 1) y0 y1 y2 y3 y4 y5)) ∧ (∀ y0 y1 y2 y3 y4 y5 y6 y7, LeO (glossatorref3_CheckRules.l1 k y0 y1 y2 y3 y4 y5 y6 y7) (glossatorref3_CheckRules.l1 (k + 1) y0 y1 y2 y3 y4 y5 y6 y7)) ∧ (∀ y0 y1 y2 y3, LeO (glossatorref3_CheckRules.l2 k y0 y1 y2 y3) (glossatorref3_CheckRules.l2 (k + 1) y0 y1 y2 y3)) ∧ (∀ y0 y1 y2 y3 y4 y5 y6, LeO (glossatorref3_CheckRules.l3 k y0 y1 y2 y3 y4 y5 y6) (glossatorref3_CheckRules.l3 (k + 1) y0 y1 y2 y3 y4 y5 y6)) ∧ (∀ y0 y1 y2 y3 y4 y5 y6 y7 y8 y9, LeO (glossatorref3_CheckRules.j5 k y0 y1 y2 y3 y4 y5 y6 y7 y8 y9) (glossatorref3_CheckRules.j5 (k + 1) y0 y1 y2 y3 y4 y5 y6 y7 y8 y9)) ∧ (∀ y0 y1 y2 y3 y4 y5 y6 y7 y8 y9, LeO (glossatorref3_CheckRules.l4 k y0 y1 y2 y3 y4 y5 y6 y7 y8 y9) (glossatorref3_CheckRules.l4 (k + 1) y0 y1 y2 y3 y4 y5 y6 y7 y8 y9))
 | 0 => ⟨fun _ _ _ _ _ r h => by simp [glossatorref3_CheckRules.l0] at h, fun _ _ _ _ _ _ r h => by simp [glossatorref3_CheckRules.j1] at h, fun _ _ _ _ _ _ _ _ r h => by simp [glossatorref3_CheckRules.l1] at h, fun _ _ _ _ r h => by simp [glossatorref3_CheckRules.l2] at h, fun _ _ _ _ _ _ _ r h => by simp [glossatorref3_CheckRules.l3] at h, fun _ _ _ _ _ _ _ _ _ _ r h => by simp [glossatorref3_CheckRules.j5] at h, fun _ _ _ _ _ _ _ _ _ _ r h => by simp [glossatorref3_CheckRules.l4] at h⟩
 | k + 1 => by
  obtain ⟨ih0, ih1, ih2, ih3, ih4, ih5, ih6⟩ := glossatorref3_CheckRules.mono_l k
  refine ⟨?_, ?_, ?_, ?_, ?_, ?_, ?_⟩
  ·intro y0 y1 y2 y3 y4
   unfold glossatorref3_CheckRules.l0
   repeat' first
   | (with_reducible exact ih0 _ _ _ _ _)
   | (with_reducible exact ih1 _ _ _ _ _ _)
   | (with_reducible exact ih2 _ _ _ _ _ _ _ _)
   | (with_reducible exact ih3 _ _ _ _)
   | (with_reducible exact ih4 _ _ _ _ _ _ _)
   | (with_reducible exact ih5 _ _ _ _ _ _ _ _ _ _)
   | (with_reducible exact ih6 _ _ _ _ _ _ _ _ _ _)
   | (with_reducible exact LeO.refl _)
   | (with_reducible exact LeO.none _)
   | (with_reducible refine LeO.ite ?_ ?_)
   | (with_reducible refine LeO.bind ?_ (fun _ => ?_))
   | exact ih0 _ _ _ _ _
   | exact ih1 _ _ _ _ _ _
   | exact ih2 _ _ _ _ _ _ _ _
   | exact ih3 _ _ _ _
   | exact ih4 _ _ _ _ _ _ _
   | exact ih5 _ _ _ _ _ _ _ _ _ _
   | exact ih6 _ _ _ _ _ _ _ _ _ _
   | exact LeO.none _
   | refine LeO.ite ?_ ?_
   | refine LeO.bind ?_ (fun _ => ?_)
  ·intro y0 y1 y2 y3 y4 y5
   unfold glossatorref3_CheckRules.j1
   repeat' first
   | (with_reducible exact ih0 _ _ _ _ _)
   | (with_reducible exact ih1 _ _ _ _ _ _)
   | (with_reducible exact ih2 _ _ _ _ _ _ _ _)
   | (with_reducible exact ih3 _ _ _ _)
   | (with_reducible exact ih4 _ _ _ _ _ _ _)
   | (with_reducible exact ih5 _ _ _ _ _ _ _ _ _ _)
   | (with_reducible exact ih6 _ _ _ _ _ _ _ _ _ _)
   | (with_reducible exact LeO.refl _)
   | (with_reducible exact LeO.none _)
   | (with_reducible refine LeO.ite ?_ ?_)
   | (with_reducible refine LeO.bind ?_ (fun _ => ?_))
   | exact ih0 _ _ _ _ _
   | exact ih1 _ _ _ _ _ _
   | exact ih2 _ _ _ _ _ _ _ _
   | exact ih3 _ _ _ _
   | exact ih4 _ _ _ _ _ _ _
   | exact ih5 _ _ _ _ _ _ _ _ _ _
   | exact ih6 _ _ _ _ _ _ _ _ _ _
   | exact LeO.none _
   | refine LeO.ite ?_ ?_
   | refine LeO.bind ?_ (fun _ => ?_)
  ·intro y0 y1 y2 y3 y4 y5 y6 y7
   unfold glossatorref3_CheckRules.l1
   repeat' first
   | (with_reducible exact ih0 _ _ _ _ _)
   | (with_reducible exact ih1 _ _ _ _ _ _)
   | (with_reducible exact ih2 _ _ _ _ _ _ _ _)
   | (with_reducible exact ih3 _ _ _ _)
   | (with_reducible exact ih4 _ _ _ _ _ _ _)
   | (with_reducible exact ih5 _ _ _ _ _ _ _ _ _ _)
   | (with_reducible exact ih6 _ _ _ _ _ _ _ _ _ _)
   | (with_reducible exact LeO.refl _)
   | (with_reducible exact LeO.none _)
   | (with_reducible refine LeO.ite ?_ ?_)
   | (with_reducible refine LeO.bind ?_ (fun _ => ?_))
   | exact ih0 _ _ _ _ _
   | exact ih1 _ _ _ _ _ _
   | exact ih2 _ _ _ _ _ _ _ _
   | exact ih3 _ _ _ _
   | exact ih4 _ _ _ _ _ _ _
   | exact ih5 _ _ _ _ _ _ _ _ _ _
   | exact ih6 _ _ _ _ _ _ _ _ _ _
   | exact LeO.none _
   | refine LeO.ite ?_ ?_
   | refine LeO.bind ?_ (fun _ => ?_)
  ·intro y0 y1 y2 y3
   unfold glossatorref3_CheckRules.l2
   repeat' first
   | (with_reducible exact ih0 _ _ _ _ _)
   | (with_reducible exact ih1 _ _ _ _ _ _)
   | (with_reducible exact ih2 _ _ _ _ _ _ _ _)
   | (with_reducible exact ih3 _ _ _ _)
   | (with_reducible exact ih4 _ _ _ _ _ _ _)
   | (with_reducible exact ih5 _ _ _ _ _ _ _ _ _ _)
   | (with_reducible exact ih6 _ _ _ _ _ _ _ _ _ _)
   | (with_reducible exact LeO.refl _)
   | (with_reducible exact LeO.none _)
   | (with_reducible refine LeO.ite ?_ ?_)
   | (with_reducible refine LeO.bind ?_ (fun _ => ?_))
   | exact ih0 _ _ _ _ _
   | exact ih1 _ _ _ _ _ _
   | exact ih2 _ _ _ _ _ _ _ _
   | exact ih3 _ _ _ _
   | exact ih4 _ _ _ _ _ _ _
   | exact ih5 _ _ _ _ _ _ _ _ _ _
   | exact ih6 _ _ _ _ _ _ _ _ _ _
   | exact LeO.none _
   | refine LeO.ite ?_ ?_
   | refine LeO.bind ?_ (fun _ => ?_)
  ·intro y0 y1 y2 y3 y4 y5 y6
   unfold glossatorref3_CheckRules.l3
   repeat' first
   | (with_reducible exact ih0 _ _ _ _ _)
   | (with_reducible exact ih1 _ _ _ _ _ _)
   | (with_reducible exact ih2 _ _ _ _ _ _ _ _)
   | (with_reducible exact ih3 _ _ _ _)
   | (with_reducible exact ih4 _ _ _ _ _ _ _)
   | (with_reducible exact ih5 _ _ _ _ _ _ _ _ _ _)
   | (with_reducible exact ih6 _ _ _ _ _ _ _ _ _ _)
   | (with_reducible exact LeO.refl _)
   | (with_reducible exact LeO.none _)
   | (with_reducible refine LeO.ite ?_ ?_)
   | (with_reducible refine LeO.bind ?_ (fun _ => ?_))
   | exact ih0 _ _ _ _ _
   | exact ih1 _ _ _ _ _ _
   | exact ih2 _ _ _ _ _ _ _ _
   | exact ih3 _ _ _ _
   | exact ih4 _ _ _ _ _ _ _
   | exact ih5 _ _ _ _ _ _ _ _ _ _
   | exact ih6 _ _ _ _ _ _ _ _ _ _
   | exact LeO.none _
   | refine LeO.ite ?_ ?_
   | refine LeO.bind ?_ (fun _ => ?_)
  ·intro y0 y1 y2 y3 y4 y5 y6 y7 y8 y9
   unfold glossatorref3_CheckRules.j5
   repeat' first
   | (with_reducible exact ih0 _ _ _ _ _)
   | (with_reducible exact ih1 _ _ _ _ _ _)
   | (with_reducible exact ih2 _ _ _ _ _ _ _ _)
   | (with_reducible exact ih3 _ _ _ _)
   | (with_reducible exact ih4 _ _ _ _ _ _ _)
   | (with_reducible exact ih5 _ _ _ _ _ _ _ _ _ _)
   | (with_reducible exact ih6 _ _ _ _ _ _ _ _ _ _)
   | (with_reducible exact LeO.refl _)
   | (with_reducible exact LeO.none _)
   | (with_reducible refine LeO.ite ?_ ?_)
   | (with_reducible refine LeO.bind ?_ (fun _ => ?_))
   | exact ih0 _ _ _ _ _
   | exact ih1 _ _ _ _ _ _
   | exact ih2 _ _ _ _ _ _ _ _
   | exact ih3 _ _ _ _
   | exact ih4 _ _ _ _ _ _ _
   | exact ih5 _ _ _ _ _ _ _ _ _ _
   | exact ih6 _ _ _ _ _ _ _ _ _ _
   | exact LeO.none _
   | refine LeO.ite ?_ ?_
   | refine LeO.bind ?_ (fun _ => ?_)
  ·intro y0 y1 y2 y3 y4 y5 y6 y7 y8 y9
   unfold glossatorref3_CheckRules.l4
   repeat' first
   | (with_reducible exact ih0 _ _ _ _ _)
   | (with_reducible exact ih1 _ _ _ _ _ _)
   | (with_reducible exact ih2 _ _ _ _ _ _ _ _)
   | (with_reducible exact ih3 _ _ _ _)
   | (with_reducible exact ih4 _ _ _ _ _ _ _)
   | (with_reducible exact ih5 _ _ _ _ _ _ _ _ _ _)
   | (with_reducible exact ih6 _ _ _ _ _ _ _ _ _ _)
   | (with_reducible exact LeO.refl _)
   | (with_reducible exact LeO.none _)
   | (with_reducible refine LeO.ite ?_ ?_)
   | (with_reducible refine LeO.bind ?_ (fun _ => ?_))
   | exact ih0 _ _ _ _ _
   | exact ih1 _ _ _ _ _ _
   | exact ih2 _ _ _ _ _ _ _ _
   | exact ih3 _ _ _ _
   | exact ih4 _ _ _ _ _ _ _
   | exact ih5 _ _ _ _ _ _ _ _ _ _
   | exact ih6 _ _ _ _ _ _ _ _ _ _
   | exact LeO.none _
   | refine LeO.ite ?_ ?_
   | refine LeO.bind ?_ (fun _ => ?_)
theorem glossatorref3_CheckRules.mono : ∀ a0 k, LeO (glossatorref3_CheckRules.f k a0) (glossatorref3_CheckRules.f (k + 1) a0) := by
 intro a0 k
 obtain ⟨ih0, ih1, ih2, ih3, ih4, ih5, ih6⟩ := glossatorref3_CheckRules.mono_l k
 unfold glossatorref3_CheckRules.f
 repeat' first
   | (with_reducible exact ih0 _ _ _ _ _)
   | (with_reducible exact ih1 _ _ _ _ _ _)
   | (with_reducible exact ih2 _ _ _ _ _ _ _ _)
   | (with_reducible exact ih3 _ _ _ _)
   | (with_reducible exact ih4 _ _ _ _ _ _ _)
   | (with_reducible exact ih5 _ _ _ _ _ _ _ _ _ _)
   | (with_reducible exact ih6 _ _ _ _ _ _ _ _ _ _)
   | (with_reducible exact LeO.refl _)
   | (with_reducible exact LeO.none _)
   | (with_reducible refine LeO.ite ?_ ?_)
   | (with_reducible refine LeO.bind ?_ (fun _ => ?_))
   | exact ih0 _ _ _ _ _
   | exact ih1 _ _ _ _ _ _
   | exact ih2 _ _ _ _ _ _ _ _
   | exact ih3 _ _ _ _
   | exact ih4 _ _ _ _ _ _ _
   | exact ih5 _ _ _ _ _ _ _ _ _ _
   | exact ih6 _ _ _ _ _ _ _ _ _ _
   | exact LeO.none _
   | refine LeO.ite ?_ ?_
   | refine LeO.bind ?_ (fun _ => ?_)
set_option maxHeartbeats 8000000 in
set_option maxRecDepth 100000 in
theorem glossatorref3_CheckRules.calls (k : Nat) (A0 : Option Addr) (c0 : Nat) (l0 : List (List (S58))) (r : Int) (w : World) (hr0 : Kd.C (Kd.slice 58 k58) w A0 l0.length l0) (hc0 : l0.length ≤ c0) (h : glossatorref3_CheckRules.f k l0 = some r) :
  Calls Try.prog 27 #[.slice A0 l0.length c0] w fun e w' => e = .returned (.int .i64 r) ∧ Below w.heap.size w w' := by
 have hu58 := Try.underlying58
 have HR0 := Aside0.mk hr0
 have HC0 := Aside0.mk hc0
 clear hr0 hc0
 have HB := Aside0.mk (Below.refl w.heap.size w)
 have H : (glossatorref3_CheckRules.l0 k l0 (decide ((l0.length : Int) > 60)) l0 (l0.length : Int) 0) = some r := h
 clear h
 have H' := Aside0.mk H
 clear H
 go_enter Try.func27, Try.ntmps27
 go_wp2
 go_loopg [3, 19] k (fun kq v3 v19 w' => ∃ (x3_1 : Bool) (x19_1 : Int), v3 = .bool x3_1 ∧ v19 = .int .i64 x19_1 ∧ Aside0 (glossatorref3_CheckRules.l0 kq l0 x3_1 l0 (l0.length : Int) x19_1 = some r) ∧ Aside0 (kq ≤ k) ∧ Aside0 (Below w.heap.size w w'))
 case atStart => exact ⟨(decide ((l0.length : Int) > 60)), (0), (by first | rfl | (simp; done) | (simp [*]; done) | (simp [isEmpty_bne]; done)), (by first | rfl | (simp; done) | (simp [*]; done) | (simp [isEmpty_bne]; done)), H', ⟨Nat.le_refl _⟩, ⟨by repeat (first | (with_reducible first | exact HB.out | apply below_alloc | apply pw_below_drewN | apply below_drew1) | exact HB.out)⟩⟩
 case round =>
  clear H'
  obtain ⟨x3_1, x19_1, rfl, rfl, HA, HK1, HB⟩ := hrel
  cases gk with
  | zero => exact absurd HA.out (by simp [glossatorref3_CheckRules.l0])
  | succ k1 =>
   have H := HA.out
   clear HA
   simp only [glossatorref3_CheckRules.l0] at H
   by_cases c2 : x19_1 < (l0.length : Int)
   ·rw [if_pos c2] at H
    have c2b0 : decide (x19_1 < (l0.length : Int)) = true := decide_eq_true c2
    clear c2
    by_cases c3 : 0 ≤ x19_1
    ·rw [if_pos c3] at H
     have c3b0 : decide (0 ≤ x19_1) = true := decide_eq_true c3
     clear c3
     by_cases c4 : x19_1 < (l0.length : Int)
     ·rw [if_pos c4] at H
      have c4b0 : decide (x19_1 < (l0.length : Int)) = true := decide_eq_true c4
      clear c4
      have HC5 := Aside0.mk H
      clear H
      have p204 : 0 ≤ (x19_1 : Int) := of_decide_eq_true (by first | (with_reducible assumption) | assumption)
      have q204 : x19_1 < (l0.length : Int) := of_decide_eq_true (by first | (with_reducible assumption) | assumption)
      obtain ⟨ad204, A204_0, c204_0, e204, hx204_0, hl204_0, hi204_0⟩ := at_L3 HR0.out x19_1 p204 q204
      cases e204
      replace hx204_0 := (HB.out.cell (World.block_lt_of_cell? w _ hx204_0)).trans hx204_0
      have HR204_0 := Aside0.mk hi204_0
      have HC204_0 := Aside0.mk hl204_0
      clear hi204_0 hl204_0
      replace p204 := eq_true p204
      replace q204 := eq_true q204
      go_upto_region 5 with (fail)
      go_cut [3] (fun v3 wc => ∃ (kq : Nat) (x3_4 : Bool), v3 = .bool x3_4 ∧ Aside0 (glossatorref3_CheckRules.j1 kq l0 x3_4 (rd_L3 l0 x19_1) l0 (l0.length : Int) x19_1 = some r) ∧ Aside0 (kq ≤ k1) ∧ Aside0 (Below w.heap.size w wc))
      case first =>
       have H := HC5.out
       clear HC5
       by_cases c6 : x3_1 = true
       ·subst c6
        have H1 : (glossatorref3_CheckRules.j1 k1 l0 true (rd_L3 l0 x19_1) l0 (l0.length : Int) x19_1) = some r := by rw [if_pos rfl] at H; exact H
        clear H
        have H := H1
        clear H1
        have H' := Aside0.mk H
        clear H
        go_wp2
        go_meet
        case rel => exact ⟨_, (true), (by first | rfl | (simp; done) | (simp [*]; done) | (simp [isEmpty_bne]; done)), H', ⟨by have := HK1.out; first | omega | exact Nat.le_refl _⟩, ⟨by repeat (first | (with_reducible first | exact HB.out | apply below_alloc | apply pw_below_drewN | apply below_drew1) | exact HB.out)⟩⟩
       ·replace c6 := Bool.eq_false_iff.mpr c6
        subst c6
        have H1 : (glossatorref3_CheckRules.j1 k1 l0 (decide (((rd_L3 l0 x19_1).length : Int) > 20)) (rd_L3 l0 x19_1) l0 (l0.length : Int) x19_1) = some r := by rw [if_neg (show ¬ (false = true) by decide)] at H; exact H
        clear H
        have H := H1
        clear H1
        have H' := Aside0.mk H
        clear H
        go_wp2
        go_meet
        case rel => exact ⟨_, (decide (((rd_L3 l0 x19_1).length : Int) > 20)), (by first | rfl | (simp; done) | (simp [*]; done) | (simp [isEmpty_bne]; done)), H', ⟨by have := HK1.out; first | omega | exact Nat.le_refl _⟩, ⟨by repeat (first | (with_reducible first | exact HB.out | apply below_alloc | apply pw_below_drewN | apply below_drew1) | exact HB.out)⟩⟩
      case rest =>
       clear HC5
       try clear c2
       try clear c2b0
       try clear p2
       try clear q2
       try clear hx2
       try clear c3
       try clear c3b0
       try clear c4
       try clear c4b0
       try clear c6
       try clear hx204_0
       try clear p204
       try clear q204
       obtain ⟨kq, x3_4, rfl, HA, HJ4, HB⟩ := hcut
       cases kq with
       | zero => exact absurd HA.out (by simp [glossatorref3_CheckRules.j1])
       | succ kj4 =>
        have H := HA.out
        clear HA
        simp only [glossatorref3_CheckRules.j1] at H
        have H' := Aside0.mk H
        clear H
        go_wp2
        go_loopg [3, 31] kj4 (fun kq v3 v31 w' => ∃ (x3_3 : Bool) (x31_3 : Int), v3 = .bool x3_3 ∧ v31 = .int .i64 x31_3 ∧ Aside0 (glossatorref3_CheckRules.l1 kq l0 x3_3 l0 (l0.length : Int) x19_1 (rd_L3 l0 x19_1) ((rd_L3 l0 x19_1).length : Int) x31_3 = some r) ∧ Aside0 (kq ≤ kj4) ∧ Aside0 (Below w.heap.size w w'))
        case atStart => exact ⟨(x3_4), (0), (by first | rfl | (simp; done) | (simp [*]; done) | (simp [isEmpty_bne]; done)), (by first | rfl | (simp; done) | (simp [*]; done) | (simp [isEmpty_bne]; done)), H', ⟨Nat.le_refl _⟩, ⟨by repeat (first | (with_reducible first | exact HB.out | apply below_alloc | apply pw_below_drewN | apply below_drew1) | exact HB.out)⟩⟩
        case round =>
         clear H'
         try clear c2
         try clear c2b0
         try clear p2
         try clear q2
         try clear hx2
         try clear c3
         try clear c3b0
         try clear c4
         try clear c4b0
         try clear c6
         try clear hx204_0
         try clear p2
         try clear p204
         try clear q2
         try clear q204
         obtain ⟨x3_3, x31_3, rfl, rfl, HA, HK3, HB⟩ := hrel
         cases gk with
         | zero => exact absurd HA.out (by simp [glossatorref3_CheckRules.l1])
         | succ k3 =>
          have H := HA.out
          clear HA
          simp only [glossatorref3_CheckRules.l1] at H
          by_cases c7 : x31_3 < ((rd_L3 l0 x19_1).length : Int)
          ·rw [if_pos c7] at H
           have c7b0 : decide (x31_3 < ((rd_L3 l0 x19_1).length : Int)) = true := decide_eq_true c7
           clear c7
           by_cases c8 : 0 ≤ x31_3
           ·rw [if_pos c8] at H
            have c8b0 : decide (0 ≤ x31_3) = true := decide_eq_true c8
            clear c8
            by_cases c9 : x31_3 < ((rd_L3 l0 x19_1).length : Int)
            ·rw [if_pos c9] at H
             have c9b0 : decide (x31_3 < ((rd_L3 l0 x19_1).length : Int)) = true := decide_eq_true c9
             clear c9
             by_cases c10 : x3_3 = true
             ·subst c10
              have H1 : (glossatorref3_CheckRules.l1 k3 l0 true l0 (l0.length : Int) x19_1 (rd_L3 l0 x19_1) ((rd_L3 l0 x19_1).length : Int) (wrap64 (x31_3 + 1))) = some r := by rw [if_pos rfl] at H; exact H
              clear H
              have H := H1
              clear H1
              have H' := Aside0.mk H
              clear H
              have p205 : 0 ≤ (x31_3 : Int) := of_decide_eq_true (by first | (with_reducible assumption) | assumption)
              have q205 : x31_3 < ((rd_L3 l0 x19_1).length : Int) := of_decide_eq_true (by first | (with_reducible assumption) | assumption)
              obtain ⟨ad205, A205_1, c205_1, e205, hx205_0, hx205_1, hl205_1, hi205_1⟩ := at_T58 HR204_0.out x31_3 p205 q205
              cases e205
              replace hx205_0 := (HB.out.cell (World.block_lt_of_cell? w _ hx205_0)).trans hx205_0
              replace hx205_1 := (HB.out.cell (World.block_lt_of_cell? w _ hx205_1)).trans hx205_1
              have HR205_1 := Aside0.mk hi205_1
              have HC205_1 := Aside0.mk hl205_1
              clear hi205_1 hl205_1
              replace p205 := eq_true p205
              replace q205 := eq_true q205
              go_wp2_with (first | ((with_reducible refine gate_dst (N := 7) rfl ?_); (try (refine gate_guard (by rfl) ?_; dsimp only)); refine box_event ?hg (N := 7) ?hd (cs := #[.int .i64 0, .slice none 0 0]) (t := 58) ?hr ?_; (case hd => rfl); (case hg => rfl); (case hr => first | (go_simp; done) | (go_simp; rfl)); intro gb206 hg w11 hbox hb; have n0_ := Aside0.mk (below_step (by repeat (first | (with_reducible first | exact HB.out | apply below_alloc | apply pw_below_drewN | apply below_drew1) | exact HB.out)) hb); have n1_ := Aside0.mk (hbox); have n2_ := Aside0.mk ((by rw [hg]; exact (below_size (by repeat (first | (with_reducible first | exact HB.out | apply below_alloc | apply pw_below_drewN | apply below_drew1) | exact HB.out))) : w.heap.size ≤ gb206)); have n3_ := Aside0.mk ((by rw [hg]; exact (below_size (by repeat (first | (with_reducible first | exact HB.out | apply below_alloc | apply pw_below_drewN | apply below_drew1) | exact HB.out))) : w.heap.size ≤ gb206)); clear HB; have HB := n0_; have BK206 := n1_; have GW206 := n2_; have GE206 := n3_; clear n0_ n1_ n2_ n3_; clear hb hbox hg; have hcz12_0 : w11.cell? ⟨gb206, 0, none⟩ = some (.int .i64 0) := (blk_cell BK206.out 0).trans rfl; have hcz12_1 : w11.cell? ⟨gb206, 1, none⟩ = some (.slice none 0 0) := (blk_cell BK206.out 1).trans rfl; have hfz12_0 := blk_frozen BK206.out 0; have hfz12_1 := blk_frozen BK206.out 1))
              go_roundg k3
              case measure => have := HK1.out; have := HJ4.out; have := HK3.out; omega
              case rel => exact ⟨(true), (wrap64 (x31_3 + 1)), (by first | rfl | (simp; done) | (simp [*]; done) | (simp [isEmpty_bne]; done)), (by first | rfl | (simp; done) | (simp [*]; done) | (simp [isEmpty_bne]; done)), H', ⟨by have := HK1.out; have := HJ4.out; have := HK3.out; omega⟩, ⟨by repeat (first | (with_reducible first | exact HB.out | apply below_alloc | apply pw_below_drewN | apply below_drew1 | refine below_set ?_ GE206.out) | exact HB.out)⟩⟩
             ·replace c10 := Bool.eq_false_iff.mpr c10
              subst c10
              have H1 : (glossatorref3_CheckRules.l1 k3 l0 (decide ((((rd_T58 (rd_L3 l0 x19_1) x31_3).f1).length : Int) > 60)) l0 (l0.length : Int) x19_1 (rd_L3 l0 x19_1) ((rd_L3 l0 x19_1).length : Int) (wrap64 (x31_3 + 1))) = some r := by rw [if_neg (show ¬ (false = true) by decide)] at H; exact H
              clear H
              have H := H1
              clear H1
              have H' := Aside0.mk H
              clear H
              have p205 : 0 ≤ (x31_3 : Int) := of_decide_eq_true (by first | (with_reducible assumption) | assumption)
              have q205 : x31_3 < ((rd_L3 l0 x19_1).length : Int) := of_decide_eq_true (by first | (with_reducible assumption) | assumption)
              obtain ⟨ad205, A205_1, c205_1, e205, hx205_0, hx205_1, hl205_1, hi205_1⟩ := at_T58 HR204_0.out x31_3 p205 q205
              cases e205
              replace hx205_0 := (HB.out.cell (World.block_lt_of_cell? w _ hx205_0)).trans hx205_0
              replace hx205_1 := (HB.out.cell (World.block_lt_of_cell? w _ hx205_1)).trans hx205_1
              have HR205_1 := Aside0.mk hi205_1
              have HC205_1 := Aside0.mk hl205_1
              clear hi205_1 hl205_1
              replace p205 := eq_true p205
              replace q205 := eq_true q205
              go_wp2_with (first | ((with_reducible refine gate_dst (N := 7) rfl ?_); (try (refine gate_guard (by rfl) ?_; dsimp only)); refine box_event ?hg (N := 7) ?hd (cs := #[.int .i64 0, .slice none 0 0]) (t := 58) ?hr ?_; (case hd => rfl); (case hg => rfl); (case hr => first | (go_simp; done) | (go_simp; rfl)); intro gb206 hg w13 hbox hb; have n0_ := Aside0.mk (below_step (by repeat (first | (with_reducible first | exact HB.out | apply below_alloc | apply pw_below_drewN | apply below_drew1) | exact HB.out)) hb); have n1_ := Aside0.mk (hbox); have n2_ := Aside0.mk ((by rw [hg]; exact (below_size (by repeat (first | (with_reducible first | exact HB.out | apply below_alloc | apply pw_below_drewN | apply below_drew1) | exact HB.out))) : w.heap.size ≤ gb206)); have n3_ := Aside0.mk ((by rw [hg]; exact (below_size (by repeat (first | (with_reducible first | exact HB.out | apply below_alloc | apply pw_below_drewN | apply below_drew1) | exact HB.out))) : w.heap.size ≤ gb206)); clear HB; have HB := n0_; have BK206 := n1_; have GW206 := n2_; have GE206 := n3_; clear n0_ n1_ n2_ n3_; clear hb hbox hg; have hcz14_0 : w13.cell? ⟨gb206, 0, none⟩ = some (.int .i64 0) := (blk_cell BK206.out 0).trans rfl; have hcz14_1 : w13.cell? ⟨gb206, 1, none⟩ = some (.slice none 0 0) := (blk_cell BK206.out 1).trans rfl; have hfz14_0 := blk_frozen BK206.out 0; have hfz14_1 := blk_frozen BK206.out 1))
              go_roundg k3
              case measure => have := HK1.out; have := HJ4.out; have := HK3.out; omega
              case rel => exact ⟨(decide ((((rd_T58 (rd_L3 l0 x19_1) x31_3).f1).length : Int) > 60)), (wrap64 (x31_3 + 1)), (by first | rfl | (simp; done) | (simp [*]; done) | (simp [isEmpty_bne]; done)), (by first | rfl | (simp; done) | (simp [*]; done) | (simp [isEmpty_bne]; done)), H', ⟨by have := HK1.out; have := HJ4.out; have := HK3.out; omega⟩, ⟨by repeat (first | (with_reducible first | exact HB.out | apply below_alloc | apply pw_below_drewN | apply below_drew1 | refine below_set ?_ GE206.out) | exact HB.out)⟩⟩
            ·rw [if_neg c9] at H
             exact absurd H (by simp)
           ·rw [if_neg c8] at H
            exact absurd H (by simp)
          ·rw [if_neg c7] at H
           have c7b0 : decide (x31_3 < ((rd_L3 l0 x19_1).length : Int)) = false := decide_eq_false c7
           clear c7
           have H' := Aside0.mk H
           clear H
           go_wp2
           go_roundg k3
           case measure => have := HK1.out; have := HJ4.out; have := HK3.out; omega
           case rel => exact ⟨(x3_3), (wrap64 (x19_1 + 1)), (by first | rfl | (simp; done) | (simp [*]; done) | (simp [isEmpty_bne]; done)), (by first | rfl | (simp; done) | (simp [*]; done) | (simp [isEmpty_bne]; done)), H', ⟨by have := HK1.out; have := HJ4.out; have := HK3.out; omega⟩, ⟨by repeat (first | (with_reducible first | exact HB.out | apply below_alloc | apply pw_below_drewN | apply below_drew1) | exact HB.out)⟩⟩
     ·rw [if_neg c4] at H
      exact absurd H (by simp)
    ·rw [if_neg c3] at H
     exact absurd H (by simp)
   ·rw [if_neg c2] at H
    have c2b0 : decide (x19_1 < (l0.length : Int)) = false := decide_eq_false c2
    clear c2
    by_cases c15 : x3_1 = true
    ·subst c15
     have H1 : (some 2) = some r := by rw [if_pos rfl] at H; exact H
     clear H
     have H := H1
     clear H1
     obtain rfl := Option.some.inj H
     go_wp2
     go_ret
     exact ⟨by first | rfl | (simp [errW_none, errW_some] <;> rfl) | (simp [*, errW_none, errW_some] <;> rfl), by repeat (first | (with_reducible first | exact HB.out | apply below_alloc | apply pw_below_drewN | apply below_drew1) | exact HB.out)⟩
    ·replace c15 := Bool.eq_false_iff.mpr c15
     subst c15
     have H1 : (glossatorref3_CheckRules.l2 k1 l0 l0 (l0.length : Int) 0) = some r := by rw [if_neg (show ¬ (false = true) by decide)] at H; exact H
     clear H
     have H := H1
     clear H1
     have H' := Aside0.mk H
     clear H
     go_wp2
     go_loopg [47] k1 (fun kq v47 w' => ∃ (x47_2 : Int), v47 = .int .i64 x47_2 ∧ Aside0 (glossatorref3_CheckRules.l2 kq l0 l0 (l0.length : Int) x47_2 = some r) ∧ Aside0 (kq ≤ k1) ∧ Aside0 (Below w.heap.size w w'))
     case atStart => exact ⟨(0), (by first | rfl | (simp; done) | (simp [*]; done) | (simp [isEmpty_bne]; done)), H', ⟨Nat.le_refl _⟩, ⟨by repeat (first | (with_reducible first | exact HB.out | apply below_alloc | apply pw_below_drewN | apply below_drew1) | exact HB.out)⟩⟩
     case round =>
      clear H'
      try clear c1
      try clear c2
      try clear c2b0
      try clear p2
      try clear q2
      try clear hx2
      try clear c3
      try clear c3b0
      try clear c4
      try clear c4b0
      try clear c6
      try clear p6
      try clear c7
      try clear c7b0
      try clear c8
      try clear c8b0
      try clear c9
      try clear c9b0
      try clear c10
      try clear c15
      try clear hcz12_0
      try clear hcz12_1
      try clear hcz14_0
      try clear hcz14_1
      try clear hfz12_0
      try clear hfz12_1
      try clear hfz14_0
      try clear hfz14_1
      try clear hx204_0
      try clear hx205_0
      try clear hx205_1
      try clear p2
      try clear p204
      try clear p205
      try clear q2
      try clear q204
      try clear q205
      obtain ⟨x47_2, rfl, HA, HK2, HB⟩ := hrel
      cases gk with
      | zero => exact absurd HA.out (by simp [glossatorref3_CheckRules.l2])
      | succ k2 =>
       have H := HA.out
       clear HA
       simp only [glossatorref3_CheckRules.l2] at H
       by_cases c16 : x47_2 < (l0.length : Int)
       ·rw [if_pos c16] at H
        have c16b0 : decide (x47_2 < (l0.length : Int)) = true := decide_eq_true c16
        clear c16
        by_cases c17 : 0 ≤ x47_2
        ·rw [if_pos c17] at H
         have c17b0 : decide (0 ≤ x47_2) = true := decide_eq_true c17
         clear c17
         by_cases c18 : x47_2 < (l0.length : Int)
         ·rw [if_pos c18] at H
          have c18b0 : decide (x47_2 < (l0.length : Int)) = true := decide_eq_true c18
          clear c18
          have H' := Aside0.mk H
          clear H
          have p207 : 0 ≤ (x47_2 : Int) := of_decide_eq_true (by first | (with_reducible assumption) | assumption)
          have q207 : x47_2 < (l0.length : Int) := of_decide_eq_true (by first | (with_reducible assumption) | assumption)
          obtain ⟨ad207, A207_0, c207_0, e207, hx207_0, hl207_0, hi207_0⟩ := at_L3 HR0.out x47_2 p207 q207
          cases e207
          replace hx207_0 := (HB.out.cell (World.block_lt_of_cell? w _ hx207_0)).trans hx207_0
          have HR207_0 := Aside0.mk hi207_0
          have HC207_0 := Aside0.mk hl207_0
          clear hi207_0 hl207_0
          replace p207 := eq_true p207
          replace q207 := eq_true q207
          go_wp2
          go_loopg [53] k2 (fun kq v53 w' => ∃ (x53_3 : Int), v53 = .int .i64 x53_3 ∧ Aside0 (glossatorref3_CheckRules.l3 kq l0 l0 (l0.length : Int) x47_2 (rd_L3 l0 x47_2) ((rd_L3 l0 x47_2).length : Int) x53_3 = some r) ∧ Aside0 (kq ≤ k2) ∧ Aside0 (Below w.heap.size w w'))
          case atStart => exact ⟨(0), (by first | rfl | (simp; done) | (simp [*]; done) | (simp [isEmpty_bne]; done)), H', ⟨Nat.le_refl _⟩, ⟨by repeat (first | (with_reducible first | exact HB.out | apply below_alloc | apply pw_below_drewN | apply below_drew1) | exact HB.out)⟩⟩
          case round =>
           clear H'
           try clear c1
           try clear c2
           try clear c2b0
           try clear p2
           try clear q2
           try clear hx2
           try clear c3
           try clear c3b0
           try clear c4
           try clear c4b0
           try clear c6
           try clear p6
           try clear c7
           try clear c7b0
           try clear c8
           try clear c8b0
           try clear c9
           try clear c9b0
           try clear c10
           try clear c15
           try clear c16
           try clear c16b0
           try clear c17
           try clear c17b0
           try clear c18
           try clear c18b0
           try clear hcz12_0
           try clear hcz12_1
           try clear hcz14_0
           try clear hcz14_1
           try clear hfz12_0
           try clear hfz12_1
           try clear hfz14_0
           try clear hfz14_1
           try clear hx204_0
           try clear hx205_0
           try clear hx205_1
           try clear hx207_0
           try clear p2
           try clear p204
           try clear p205
           try clear p207
           try clear p6
           try clear q2
           try clear q204
           try clear q205
           try clear q207
           obtain ⟨x53_3, rfl, HA, HK3, HB⟩ := hrel
           cases gk with
           | zero => exact absurd HA.out (by simp [glossatorref3_CheckRules.l3])
           | succ k3 =>
            have H := HA.out
            clear HA
            simp only [glossatorref3_CheckRules.l3] at H
            by_cases c19 : x53_3 < ((rd_L3 l0 x47_2).length : Int)
            ·rw [if_pos c19] at H
             have c19b0 : decide (x53_3 < ((rd_L3 l0 x47_2).length : Int)) = true := decide_eq_true c19
             clear c19
             by_cases c20 : 0 ≤ x53_3
             ·rw [if_pos c20] at H
              have c20b0 : decide (0 ≤ x53_3) = true := decide_eq_true c20
              clear c20
              by_cases c21 : x53_3 < ((rd_L3 l0 x47_2).length : Int)
              ·rw [if_pos c21] at H
               have c21b0 : decide (x53_3 < ((rd_L3 l0 x47_2).length : Int)) = true := decide_eq_true c21
               clear c21
               have HC22 := Aside0.mk H
               clear H
               have p208 : 0 ≤ (x53_3 : Int) := of_decide_eq_true (by first | (with_reducible assumption) | assumption)
               have q208 : x53_3 < ((rd_L3 l0 x47_2).length : Int) := of_decide_eq_true (by first | (with_reducible assumption) | assumption)
               obtain ⟨ad208, A208_1, c208_1, e208, hx208_0, hx208_1, hl208_1, hi208_1⟩ := at_T58 HR207_0.out x53_3 p208 q208
               cases e208
               replace hx208_0 := (HB.out.cell (World.block_lt_of_cell? w _ hx208_0)).trans hx208_0
               replace hx208_1 := (HB.out.cell (World.block_lt_of_cell? w _ hx208_1)).trans hx208_1
               have HR208_1 := Aside0.mk hi208_1
               have HC208_1 := Aside0.mk hl208_1
               clear hi208_1 hl208_1
               replace p208 := eq_true p208
               replace q208 := eq_true q208
               go_upto_region 20 with (first | ((with_reducible refine gate_dst (N := 11) rfl ?_); (try (refine gate_guard (by rfl) ?_; dsimp only)); refine box_event ?hg (N := 11) ?hd (cs := #[.int .i64 0, .slice none 0 0]) (t := 58) ?hr ?_; (case hd => rfl); (case hg => rfl); (case hr => first | (go_simp; done) | (go_simp; rfl)); intro gb209 hg w23 hbox hb; have n0_ := Aside0.mk (below_step (by repeat (first | (with_reducible first | exact HB.out | apply below_alloc | apply pw_below_drewN | apply below_drew1) | exact HB.out)) hb); have n1_ := Aside0.mk (hbox); have n2_ := Aside0.mk ((by rw [hg]; exact (below_size (by repeat (first | (with_reducible first | exact HB.out | apply below_alloc | apply pw_below_drewN | apply below_drew1) | exact HB.out))) : w.heap.size ≤ gb209)); have n3_ := Aside0.mk ((by rw [hg]; exact (below_size (by repeat (first | (with_reducible first | exact HB.out | apply below_alloc | apply pw_below_drewN | apply below_drew1) | exact HB.out))) : w.heap.size ≤ gb209)); clear HB; have HB := n0_; have BK209 := n1_; have GW209 := n2_; have GE209 := n3_; clear n0_ n1_ n2_ n3_; clear hb hbox hg; have hcz24_0 : w23.cell? ⟨gb209, 0, none⟩ = some (.int .i64 0) := (blk_cell BK209.out 0).trans rfl; have hcz24_1 : w23.cell? ⟨gb209, 1, none⟩ = some (.slice none 0 0) := (blk_cell BK209.out 1).trans rfl; have hfz24_0 := blk_frozen BK209.out 0; have hfz24_1 := blk_frozen BK209.out 1))
               (try simp only [Act.put, List.setIfInBounds_toArray, List.set_cons_zero, List.set_cons_succ])
               go_cut [64] (fun v64 wc => ∃ (kq : Nat) (x64_21 : Bool), v64 = .bool x64_21 ∧ Aside0 (glossatorref3_CheckRules.j5 kq l0 l0 (l0.length : Int) x47_2 (rd_L3 l0 x47_2) ((rd_L3 l0 x47_2).length : Int) x53_3 x64_21 ((rd_T58 (rd_L3 l0 x47_2) x53_3).f0) ((rd_T58 (rd_L3 l0 x47_2) x53_3).f1) = some r) ∧ Aside0 (kq ≤ k3) ∧ Aside0 (wc.heap[gb209]? = some (.cells #[.int .i64 ((rd_T58 (rd_L3 l0 x47_2) x53_3).f0), (.slice A208_1 ((rd_T58 (rd_L3 l0 x47_2) x53_3).f1).length c208_1)] 58 (0, 0))) ∧ Aside0 (Below w.heap.size w wc))
               case first =>
                have H := HC22.out
                clear HC22
                by_cases c25 : ((rd_T58 (rd_L3 l0 x47_2) x53_3).f0) < 0
                ·rw [if_pos c25] at H
                 have c25b0 : decide (((rd_T58 (rd_L3 l0 x47_2) x53_3).f0) < 0) = true := decide_eq_true c25
                 clear c25
                 (first | rw [c25b0] | (simp only [i64_w, i32_w]; rw [c25b0]) | skip)
                 have H' := Aside0.mk H
                 clear H
                 have hcz26_0 : w23.cell? ⟨gb209, 0, none⟩ = some (.int .i64 0) := (blk_cell BK209.out 0).trans rfl
                 have hcz26_1 : w23.cell? ⟨gb209, 1, none⟩ = some (.slice none 0 0) := (blk_cell BK209.out 1).trans rfl
                 have hfz26_0 := blk_frozen BK209.out 0
                 have hfz26_1 := blk_frozen BK209.out 1
                 go_wp2
                 go_meet
                 case rel => exact ⟨_, (true), (by first | rfl | (simp; done) | (simp [*]; done) | (simp [isEmpty_bne]; done)), H', ⟨by have := HK1.out; have := HK2.out; have := HK3.out; first | omega | exact Nat.le_refl _⟩, ⟨by (with_reducible repeat (first | refine blk_drewN ?_ _ | refine blk_drew ?_ | refine blk_alloc ?_ _)); refine blk_put (cs := #[.int .i64 ((rd_T58 (rd_L3 l0 x47_2) x53_3).f0), .slice none 0 0]) ?_ 1 _ rfl; (with_reducible repeat (first | refine blk_drewN ?_ _ | refine blk_drew ?_ | refine blk_alloc ?_ _)); refine blk_put (cs := #[.int .i64 0, .slice none 0 0]) ?_ 0 _ rfl; (with_reducible repeat (first | refine blk_drewN ?_ _ | refine blk_drew ?_ | refine blk_alloc ?_ _)); exact BK209.out⟩, ⟨by repeat (first | (with_reducible first | exact HB.out | apply below_alloc | apply pw_below_drewN | apply below_drew1 | refine below_set ?_ GE209.out) | exact HB.out)⟩⟩
                ·rw [if_neg c25] at H
                 have c25b0 : decide (((rd_T58 (rd_L3 l0 x47_2) x53_3).f0) < 0) = false := decide_eq_false c25
                 clear c25
                 (first | rw [c25b0] | (simp only [i64_w, i32_w]; rw [c25b0]) | skip)
                 have H' := Aside0.mk H
                 clear H
                 have hcz27_0 : w23.cell? ⟨gb209, 0, none⟩ = some (.int .i64 0) := (blk_cell BK209.out 0).trans rfl
                 have hcz27_1 : w23.cell? ⟨gb209, 1, none⟩ = some (.slice none 0 0) := (blk_cell BK209.out 1).trans rfl
                 have hfz27_0 := blk_frozen BK209.out 0
                 have hfz27_1 := blk_frozen BK209.out 1
                 go_wp2
                 go_meet
                 case rel => exact ⟨_, (decide (((rd_T58 (rd_L3 l0 x47_2) x53_3).f0) ≥ 1048576)), (by first | rfl | (simp; done) | (simp [*]; done) | (simp [isEmpty_bne]; done)), H', ⟨by have := HK1.out; have := HK2.out; have := HK3.out; first | omega | exact Nat.le_refl _⟩, ⟨by (with_reducible repeat (first | refine blk_drewN ?_ _ | refine blk_drew ?_ | refine blk_alloc ?_ _)); refine blk_put (cs := #[.int .i64 ((rd_T58 (rd_L3 l0 x47_2) x53_3).f0), .slice none 0 0]) ?_ 1 _ rfl; (with_reducible repeat (first | refine blk_drewN ?_ _ | refine blk_drew ?_ | refine blk_alloc ?_ _)); refine blk_put (cs := #[.int .i64 0, .slice none 0 0]) ?_ 0 _ rfl; (with_reducible repeat (first | refine blk_drewN ?_ _ | refine blk_drew ?_ | refine blk_alloc ?_ _)); exact BK209.out⟩, ⟨by repeat (first | (with_reducible first | exact HB.out | apply below_alloc | apply pw_below_drewN | apply below_drew1 | refine below_set ?_ GE209.out) | exact HB.out)⟩⟩
               case rest =>
                clear HC22
                try clear c1
                try clear c2
                try clear c2b0
                try clear p2
                try clear q2
                try clear hx2
                try clear c3
                try clear c3b0
                try clear c4
                try clear c4b0
                try clear c6
                try clear p6
                try clear c7
                try clear c7b0
                try clear c8
                try clear c8b0
                try clear c9
                try clear c9b0
                try clear c10
                try clear c15
                try clear c16
                try clear c16b0
                try clear c17
                try clear c17b0
                try clear c18
                try clear c18b0
                try clear c19
                try clear c19b0
                try clear c20
                try clear c20b0
                try clear p20
                try clear q20
                try clear hx20
                try clear c21
                try clear c21b0
                try clear c25
                try clear c25b0
                try clear c27
                try clear hcz12_0
                try clear hcz12_1
                try clear hcz14_0
                try clear hcz14_1
                try clear hcz24_0
                try clear hcz24_1
                try clear hcz26_0
                try clear hcz26_1
                try clear hcz27_0
                try clear hcz27_1
                try clear hfz12_0
                try clear hfz12_1
                try clear hfz14_0
                try clear hfz14_1
                try clear hfz24_0
                try clear hfz24_1
                try clear hfz26_0
                try clear hfz26_1
                try clear hfz27_0
                try clear hfz27_1
                try clear hx204_0
                try clear hx205_0
                try clear hx205_1
                try clear hx207_0
                try clear hx208_0
                try clear hx208_1
                try clear p2
                try clear p204
                try clear p205
                try clear p207
                try clear p208
                try clear p6
                try clear q2
                try clear q204
                try clear q205
                try clear q207
                try clear q208
                obtain ⟨kq, x64_21, rfl, HA, HJ21, BK209, HB⟩ := hcut
                cases kq with
                | zero => exact absurd HA.out (by simp [glossatorref3_CheckRules.j5])
                | succ kj21 =>
                 have H := HA.out
                 clear HA
                 simp only [glossatorref3_CheckRules.j5] at H
                 by_cases c28 : x64_21 = true
                 ·subst c28
                  have H1 : (some 1) = some r := by rw [if_pos rfl] at H; exact H
                  clear H
                  have H := H1
                  clear H1
                  obtain rfl := Option.some.inj H
                  go_wp2
                  go_ret
                  exact ⟨by first | rfl | (simp [errW_none, errW_some] <;> rfl) | (simp [*, errW_none, errW_some] <;> rfl), by repeat (first | (with_reducible first | exact HB.out | apply below_alloc | apply pw_below_drewN | apply below_drew1 | refine below_set ?_ GE209.out) | exact HB.out)⟩
                 ·replace c28 := Bool.eq_false_iff.mpr c28
                  subst c28
                  have H1 : (glossatorref3_CheckRules.l4 kj21 l0 l0 (l0.length : Int) x47_2 (rd_L3 l0 x47_2) ((rd_L3 l0 x47_2).length : Int) x53_3 ((rd_T58 (rd_L3 l0 x47_2) x53_3).f1) (((rd_T58 (rd_L3 l0 x47_2) x53_3).f1).length : Int) 0) = some r := by rw [if_neg (show ¬ (false = true) by decide)] at H; exact H
                  clear H
                  have H := H1
                  clear H1
                  have H' := Aside0.mk H
                  clear H
                  have hcz29_0 : wc.cell? ⟨gb209, 0, none⟩ = some (.int .i64 ((rd_T58 (rd_L3 l0 x47_2) x53_3).f0)) := (blk_cell BK209.out 0).trans rfl
                  have hcz29_1 : wc.cell? ⟨gb209, 1, none⟩ = some (.slice A208_1 ((rd_T58 (rd_L3 l0 x47_2) x53_3).f1).length c208_1) := (blk_cell BK209.out 1).trans rfl
                  have hfz29_0 := blk_frozen BK209.out 0
                  have hfz29_1 := blk_frozen BK209.out 1
                  go_wp2
                  go_loopg [68] kj21 (fun kq v68 w' => ∃ (x68_5 : Int), v68 = .int .i64 x68_5 ∧ Aside0 (glossatorref3_CheckRules.l4 kq l0 l0 (l0.length : Int) x47_2 (rd_L3 l0 x47_2) ((rd_L3 l0 x47_2).length : Int) x53_3 ((rd_T58 (rd_L3 l0 x47_2) x53_3).f1) (((rd_T58 (rd_L3 l0 x47_2) x53_3).f1).length : Int) x68_5 = some r) ∧ Aside0 (kq ≤ kj21) ∧ Aside0 (w'.heap[gb209]? = some (.cells #[.int .i64 ((rd_T58 (rd_L3 l0 x47_2) x53_3).f0), (.slice A208_1 ((rd_T58 (rd_L3 l0 x47_2) x53_3).f1).length c208_1)] 58 (0, 0))) ∧ Aside0 (Below w.heap.size w w'))
                  case atStart => exact ⟨(0), (by first | rfl | (simp; done) | (simp [*]; done) | (simp [isEmpty_bne]; done)), H', ⟨Nat.le_refl _⟩, ⟨by (with_reducible repeat (first | refine blk_drewN ?_ _ | refine blk_drew ?_ | refine blk_alloc ?_ _)); exact BK209.out⟩, ⟨by repeat (first | (with_reducible first | exact HB.out | apply below_alloc | apply pw_below_drewN | apply below_drew1 | refine below_set ?_ GE209.out) | exact HB.out)⟩⟩
                  case round =>
                   clear H'
                   try clear c1
                   try clear c2
                   try clear c2b0
                   try clear p2
                   try clear q2
                   try clear hx2
                   try clear c3
                   try clear c3b0
                   try clear c4
                   try clear c4b0
                   try clear c6
                   try clear p6
                   try clear c7
                   try clear c7b0
                   try clear c8
                   try clear c8b0
                   try clear c9
                   try clear c9b0
                   try clear c10
                   try clear c15
                   try clear c16
                   try clear c16b0
                   try clear c17
                   try clear c17b0
                   try clear c18
                   try clear c18b0
                   try clear c19
                   try clear c19b0
                   try clear c20
                   try clear c20b0
                   try clear p20
                   try clear q20
                   try clear hx20
                   try clear c21
                   try clear c21b0
                   try clear c25
                   try clear c25b0
                   try clear c27
                   try clear c28
                   try clear hcz12_0
                   try clear hcz12_1
                   try clear hcz14_0
                   try clear hcz14_1
                   try clear hcz24_0
                   try clear hcz24_1
                   try clear hcz26_0
                   try clear hcz26_1
                   try clear hcz27_0
                   try clear hcz27_1
                   try clear hcz29_0
                   try clear hcz29_1
                   try clear hfz12_0
                   try clear hfz12_1
                   try clear hfz14_0
                   try clear hfz14_1
                   try clear hfz24_0
                   try clear hfz24_1
                   try clear hfz26_0
                   try clear hfz26_1
                   try clear hfz27_0
                   try clear hfz27_1
                   try clear hfz29_0
                   try clear hfz29_1
                   try clear hx204_0
                   try clear hx205_0
                   try clear hx205_1
                   try clear hx207_0
                   try clear hx208_0
                   try clear hx208_1
                   try clear p2
                   try clear p20
                   try clear p204
                   try clear p205
                   try clear p207
                   try clear p208
                   try clear p6
                   try clear q2
                   try clear q20
                   try clear q204
                   try clear q205
                   try clear q207
                   try clear q208
                   obtain ⟨x68_5, rfl, HA, HK5, BK209, HB⟩ := hrel
                   cases gk with
                   | zero => exact absurd HA.out (by simp [glossatorref3_CheckRules.l4])
                   | succ k5 =>
                    have H := HA.out
                    clear HA
                    simp only [glossatorref3_CheckRules.l4] at H
                    by_cases c30 : x68_5 < (((rd_T58 (rd_L3 l0 x47_2) x53_3).f1).length : Int)
                    ·rw [if_pos c30] at H
                     have c30b0 : decide (x68_5 < (((rd_T58 (rd_L3 l0 x47_2) x53_3).f1).length : Int)) = true := decide_eq_true c30
                     clear c30
                     by_cases c31 : 0 ≤ x68_5
                     ·rw [if_pos c31] at H
                      have c31b0 : decide (0 ≤ x68_5) = true := decide_eq_true c31
                      clear c31
                      by_cases c32 : x68_5 < (((rd_T58 (rd_L3 l0 x47_2) x53_3).f1).length : Int)
                      ·rw [if_pos c32] at H
                       have c32b0 : decide (x68_5 < (((rd_T58 (rd_L3 l0 x47_2) x53_3).f1).length : Int)) = true := decide_eq_true c32
                       clear c32
                       by_cases c33 : (rd ((rd_T58 (rd_L3 l0 x47_2) x53_3).f1) x68_5) < 0
                       ·rw [if_pos c33] at H
                        have c33b0 : decide ((rd ((rd_T58 (rd_L3 l0 x47_2) x53_3).f1) x68_5) < 0) = true := decide_eq_true c33
                        clear c33
                        obtain rfl := Option.some.inj H
                        have p210 : 0 ≤ (x68_5 : Int) := of_decide_eq_true (by first | (with_reducible assumption) | assumption)
                        have q210 : x68_5 < (((rd_T58 (rd_L3 l0 x47_2) x53_3).f1).length : Int) := of_decide_eq_true (by first | (with_reducible assumption) | assumption)
                        obtain ⟨ad210, e210, hx210_0⟩ := Kd.at_int HR208_1.out x68_5 p210 q210
                        cases e210
                        replace hx210_0 := (HB.out.cell (World.block_lt_of_cell? w _ hx210_0)).trans hx210_0
                        replace p210 := eq_true p210
                        replace q210 := eq_true q210
                        go_wp2
                        go_ret
                        exact ⟨by first | rfl | (simp [errW_none, errW_some] <;> rfl) | (simp [*, errW_none, errW_some] <;> rfl), by repeat (first | (with_reducible first | exact HB.out | apply below_alloc | apply pw_below_drewN | apply below_drew1 | refine below_set ?_ GE209.out) | exact HB.out)⟩
                       ·rw [if_neg c33] at H
                        have c33b0 : decide ((rd ((rd_T58 (rd_L3 l0 x47_2) x53_3).f1) x68_5) < 0) = false := decide_eq_false c33
                        clear c33
                        by_cases c34 : (rd ((rd_T58 (rd_L3 l0 x47_2) x53_3).f1) x68_5) ≥ (l0.length : Int)
                        ·rw [if_pos c34] at H
                         have c34b0 : decide ((l0.length : Int) ≤ (rd ((rd_T58 (rd_L3 l0 x47_2) x53_3).f1) x68_5)) = true := decide_eq_true c34
                         clear c34
                         obtain rfl := Option.some.inj H
                         have p210 : 0 ≤ (x68_5 : Int) := of_decide_eq_true (by first | (with_reducible assumption) | assumption)
                         have q210 : x68_5 < (((rd_T58 (rd_L3 l0 x47_2) x53_3).f1).length : Int) := of_decide_eq_true (by first | (with_reducible assumption) | assumption)
                         obtain ⟨ad210, e210, hx210_0⟩ := Kd.at_int HR208_1.out x68_5 p210 q210
                         cases e210
                         replace hx210_0 := (HB.out.cell (World.block_lt_of_cell? w _ hx210_0)).trans hx210_0
                         replace p210 := eq_true p210
                         replace q210 := eq_true q210
                         go_wp2
                         go_ret
                         exact ⟨by first | rfl | (simp [errW_none, errW_some] <;> rfl) | (simp [*, errW_none, errW_some] <;> rfl), by repeat (first | (with_reducible first | exact HB.out | apply below_alloc | apply pw_below_drewN | apply below_drew1 | refine below_set ?_ GE209.out) | exact HB.out)⟩
                        ·rw [if_neg c34] at H
                         have c34b0 : decide ((l0.length : Int) ≤ (rd ((rd_T58 (rd_L3 l0 x47_2) x53_3).f1) x68_5)) = false := decide_eq_false c34
                         clear c34
                         have H' := Aside0.mk H
                         clear H
                         have p210 : 0 ≤ (x68_5 : Int) := of_decide_eq_true (by first | (with_reducible assumption) | assumption)
                         have q210 : x68_5 < (((rd_T58 (rd_L3 l0 x47_2) x53_3).f1).length : Int) := of_decide_eq_true (by first | (with_reducible assumption) | assumption)
                         obtain ⟨ad210, e210, hx210_0⟩ := Kd.at_int HR208_1.out x68_5 p210 q210
                         cases e210
                         replace hx210_0 := (HB.out.cell (World.block_lt_of_cell? w _ hx210_0)).trans hx210_0
                         replace p210 := eq_true p210
                         replace q210 := eq_true q210
                         go_wp2
                         go_roundg k5
                         case measure => have := HK1.out; have := HK2.out; have := HK3.out; have := HJ21.out; have := HK5.out; omega
                         case rel => exact ⟨(wrap64 (x68_5 + 1)), (by first | rfl | (simp; done) | (simp [*]; done) | (simp [isEmpty_bne]; done)), H', ⟨by have := HK1.out; have := HK2.out; have := HK3.out; have := HJ21.out; have := HK5.out; omega⟩, ⟨by (with_reducible repeat (first | refine blk_drewN ?_ _ | refine blk_drew ?_ | refine blk_alloc ?_ _)); exact BK209.out⟩, ⟨by repeat (first | (with_reducible first | exact HB.out | apply below_alloc | apply pw_below_drewN | apply below_drew1 | refine below_set ?_ GE209.out) | exact HB.out)⟩⟩
                      ·rw [if_neg c32] at H
                       exact absurd H (by simp)
                     ·rw [if_neg c31] at H
                      exact absurd H (by simp)
                    ·rw [if_neg c30] at H
                     have c30b0 : decide (x68_5 < (((rd_T58 (rd_L3 l0 x47_2) x53_3).f1).length : Int)) = false := decide_eq_false c30
                     clear c30
                     have H' := Aside0.mk H
                     clear H
                     go_wp2
                     go_roundg k5
                     case measure => have := HK1.out; have := HK2.out; have := HK3.out; have := HJ21.out; have := HK5.out; omega
                     case rel => exact ⟨(wrap64 (x53_3 + 1)), (by first | rfl | (simp; done) | (simp [*]; done) | (simp [isEmpty_bne]; done)), H', ⟨by have := HK1.out; have := HK2.out; have := HK3.out; have := HJ21.out; have := HK5.out; omega⟩, ⟨by repeat (first | (with_reducible first | exact HB.out | apply below_alloc | apply pw_below_drewN | apply below_drew1 | refine below_set ?_ GE209.out) | exact HB.out)⟩⟩
              ·rw [if_neg c21] at H
               exact absurd H (by simp)
             ·rw [if_neg c20] at H
              exact absurd H (by simp)
            ·rw [if_neg c19] at H
             have c19b0 : decide (x53_3 < ((rd_L3 l0 x47_2).length : Int)) = false := decide_eq_false c19
             clear c19
             have H' := Aside0.mk H
             clear H
             go_wp2
             go_roundg k3
             case measure => have := HK1.out; have := HK2.out; have := HK3.out; omega
             case rel => exact ⟨(wrap64 (x47_2 + 1)), (by first | rfl | (simp; done) | (simp [*]; done) | (simp [isEmpty_bne]; done)), H', ⟨by have := HK1.out; have := HK2.out; have := HK3.out; omega⟩, ⟨by repeat (first | (with_reducible first | exact HB.out | apply below_alloc | apply pw_below_drewN | apply below_drew1) | exact HB.out)⟩⟩
         ·rw [if_neg c18] at H
          exact absurd H (by simp)
        ·rw [if_neg c17] at H
         exact absurd H (by simp)
       ·rw [if_neg c16] at H
        have c16b0 : decide (x47_2 < (l0.length : Int)) = false := decide_eq_false c16
        clear c16
        obtain rfl := Option.some.inj H
        go_wp2
        go_ret
        exact ⟨by first | rfl | (simp [errW_none, errW_some] <;> rfl) | (simp [*, errW_none, errW_some] <;> rfl), by repeat (first | (with_reducible first | exact HB.out | apply below_alloc | apply pw_below_drewN | apply below_drew1) | exact HB.out)⟩

end Go.Proofs.Ytglckkkjfcomlaa.QFixpointProofs
