-- Written by gen.py (this repo's wip/), which runs the kit's print.py with more arms. Lean checks it.
import Derived.Test.YtglckkkjfcomlaaQFixpointProofsx0
import Derived.Test.YtglckkkjfcomlaaQFixpointProofsx2
import Derived.Test.YtglckkkjfcomlaaQFixpointProofsx3
namespace Go.Proofs.Ytglckkkjfcomlaa.QFixpointProofs
open Go.RowKit Go.Proofs.YtglckkkjfcomlaaW.PrintWords Go.Proofs.YtglckkkjfcomlaaW.PrintLast Go.Proofs.YtglckkkjfcomlaaW.PrintMore
attribute [local go_sem] max2_int min2_int max_two min_two max_three min_three max_four min_four   -- for this text's walks alone
set_option linter.unusedVariables false
set_option linter.unusedSimpArgs false

private theorem isEmpty_bne {α : Type} [BEq α] (l : List α) : (l != []) = !l.isEmpty := by cases l <;> rfl

/-! ### fixpoint_propagate: function 99 -/
mutual
def fixpoint_propagate.l0 : Nat → List (List (S58)) → List Int → List Int → List (List Int) → List (List (S58)) → Int → Int → Option (List Int)
 | 0, _, _, _, _, _, _, _ => none
 | k + 1, x0, x1, x2, x6, x20, x21, x22 => if x22 < x21 then (if 0 ≤ x22 then (if x22 < (x20.length : Int) then (fixpoint_propagate.l1 k x0 x1 x2 x6 x22 x20 x21 x22 (rd_L3 x20 x22) ((rd_L3 x20 x22).length : Int) 0) else (none)) else (none)) else (fixpoint_propagate.l3 k x0 x1 x2 x6)
def fixpoint_propagate.l1 : Nat → List (List (S58)) → List Int → List Int → List (List Int) → Int → List (List (S58)) → Int → Int → List (S58) → Int → Int → Option (List Int)
 | 0, _, _, _, _, _, _, _, _, _, _, _ => none
 | k + 1, x0, x1, x2, x6, x7, x20, x21, x22, x27, x28, x29 => if x29 < x28 then (if 0 ≤ x29 then (if x29 < (x27.length : Int) then (fixpoint_propagate.l2 k x0 x1 x2 x6 x7 x20 x21 x22 x27 x28 x29 ((rd_T58 x27 x29).f1) (((rd_T58 x27 x29).f1).length : Int) 0) else (none)) else (none)) else (fixpoint_propagate.l0 k x0 x1 x2 x6 x20 x21 (wrap64 (x22 + 1)))
def fixpoint_propagate.l2 : Nat → List (List (S58)) → List Int → List Int → List (List Int) → Int → List (List (S58)) → Int → Int → List (S58) → Int → Int → List Int → Int → Int → Option (List Int)
 | 0, _, _, _, _, _, _, _, _, _, _, _, _, _, _ => none
 | k + 1, x0, x1, x2, x6, x7, x20, x21, x22, x27, x28, x29, x34, x35, x36 => if x36 < x35 then (if 0 ≤ x36 then (if x36 < (x34.length : Int) then (if 0 ≤ (rd x34 x36) then (if (rd x34 x36) < (x6.length : Int) then ((slices_Contains_int_int.f k (rd_L1 x6 (rd x34 x36)) x7).bind fun t133 => (if t133 = true then (fixpoint_propagate.l2 k x0 x1 x2 x6 x7 x20 x21 x22 x27 x28 x29 x34 x35 (wrap64 (x36 + 1))) else (if (rd_L1 x6 (rd x34 x36)).length < 17592186044416 then (fixpoint_propagate.l2 k x0 x1 x2 (x6.set ((rd x34 x36) : Int).toNat ((rd_L1 x6 (rd x34 x36)) ++ [x7])) x7 x20 x21 x22 x27 x28 x29 x34 x35 (wrap64 (x36 + 1))) else (none)))) else (none)) else (none)) else (none)) else (none)) else (fixpoint_propagate.l1 k x0 x1 x2 x6 x7 x20 x21 x22 x27 x28 (wrap64 (x29 + 1)))
def fixpoint_propagate.l3 : Nat → List (List (S58)) → List Int → List Int → List (List Int) → Option (List Int)
 | 0, _, _, _, _ => none
 | k + 1, x0, x1, x2, x6 => if (x2.length : Int) > 0 then (if 0 < (x2.length : Int) then (if 1 ≤ (x2.length : Int) then ((some (x2.drop (1 : Int).toNat : List Int)).bind fun y140 => (if 0 ≤ (rd x2 0) then (if (rd x2 0) < (x1.length : Int) then (if (rd x2 0) < (x0.length : Int) then ((fixpoint_deriveAll.f k (rd_L3 x0 (rd x2 0)) x1).bind fun t145 => (if (Go.bits .or .i64 (rd x1 (rd x2 0)) t145) = (rd x1 (rd x2 0)) then (fixpoint_propagate.l3 k x0 x1 y140 x6) else (if (rd x2 0) < (x6.length : Int) then (fixpoint_propagate.l4 k x0 (x1.set ((rd x2 0) : Int).toNat (Go.bits .or .i64 (rd x1 (rd x2 0)) t145)) y140 x6 (rd_L1 x6 (rd x2 0)) ((rd_L1 x6 (rd x2 0)).length : Int) 0) else (none)))) else (none)) else (none)) else (none))) else (none)) else (none)) else (some x1)
def fixpoint_propagate.l4 : Nat → List (List (S58)) → List Int → List Int → List (List Int) → List Int → Int → Int → Option (List Int)
 | 0, _, _, _, _, _, _, _ => none
 | k + 1, x0, x1, x2, x6, x92, x93, x94 => if x94 < x93 then (if 0 ≤ x94 then (if x94 < (x92.length : Int) then ((slices_Contains_int_int.f k x2 (rd x92 x94)).bind fun t150 => (if t150 = true then (fixpoint_propagate.l4 k x0 x1 x2 x6 x92 x93 (wrap64 (x94 + 1))) else (if x2.length < 17592186044416 then (fixpoint_propagate.l4 k x0 x1 (x2 ++ [rd x92 x94]) x6 x92 x93 (wrap64 (x94 + 1))) else (none)))) else (none)) else (none)) else (fixpoint_propagate.l3 k x0 x1 x2 x6)
end
def fixpoint_propagate.f (k : Nat) (l0 : List (List (S58))) (l1 : List Int) (l2 : List Int) : Option (List Int) := if 0 ≤ (l0.length : Int) then (if ((l0.length : Int) : Int).toNat ≤ 11728124029610 then (fixpoint_propagate.l0 k l0 l1 l2 (List.replicate ((l0.length : Int) : Int).toNat []) l0 (l0.length : Int) 0) else (none)) else (none)
theorem fixpoint_propagate.mono_l : ∀ k, (∀ y0 y1 y2 y3 y4 y5 y6, LeO (fixpoint_propagate.l0 k y0 y1 y2 y3 y4 y5 y6) (fixpoint_propagate.l0 (k + 1) y0 y1 y2 y3 y4 y5 y6)) ∧ (∀ y0 y1 y2 y3 y4 y5 y6 y7 y8 y9 y10, LeO (fixpoint_propagate.l1 k y0 y1 y2 y3 y4 y5 y6 y7 y8 y9 y10) (fixpoint_propagate.l1 (k + 1) y0 y1 y2 y3 y4 y5 y6 y7 y8 y9 y10)) ∧ (∀ y0 y1 y2 y3 y4 y5 y6 y7 y8 y9 y10 y11 y12 y13, LeO (fixpoint_propagate.l2 k y0 y1 y2 y3 y4 y5 y6 y7 y8 y9 y10 y11 y12 y13) (fixpoint_propagate.l2 (k + 1) y0 y1 y2 y3 y4 y5 y6 y7 y8 y9 y10 y11 y12 y13)) ∧ (∀ y0 y1 y2 y3, LeO (fixpoint_propagate.l3 k y0 y1 y2 y3) (fixpoint_propagate.l3 (k + 1) y0 y1 y2 y3)) ∧ (∀ y0 y1 y2 y3 y4 y5 y6, LeO (fixpoint_propagate.l4 k y0 y1 y2 y3 y4 y5 y6) (fixpoint_propagate.l4 (k + 1) y0 y1 y2 y3 y4 y5 y6))
 | 0 => ⟨fun _ _ _ _ _ _ _ r h => by simp [fixpoint_propagate.l0] at h, fun _ _ _ _ _ _ _ _ _ _ _ r h => by simp [fixpoint_propagate.l1] at h, fun _ _ _ _ _ _ _ _ _ _ _ _ _ _ r h => by simp [fixpoint_propagate.l2] at h, fun _ _ _ _ r h => by simp [fixpoint_propagate.l3] at h, fun _ _ _ _ _ _ _ r h => by simp [fixpoint_propagate.l4] at h⟩
 | k + 1 => by
  obtain ⟨ih0, ih1, ih2, ih3, ih4⟩ := fixpoint_propagate.mono_l k
  refine ⟨?_, ?_, ?_, ?_, ?_⟩
  ·intro y0 y1 y2 y3 y4 y5 y6
   unfold fixpoint_propagate.l0
   repeat' first
   | (with_reducible exact ih0 _ _ _ _ _ _ _)
   | (with_reducible exact ih1 _ _ _ _ _ _ _ _ _ _ _)
   | (with_reducible exact ih2 _ _ _ _ _ _ _ _ _ _ _ _ _ _)
   | (with_reducible exact ih3 _ _ _ _)
   | (with_reducible exact ih4 _ _ _ _ _ _ _)
   | (with_reducible exact fixpoint_deriveAll.mono _ _ _)
   | (with_reducible exact slices_Contains_int_int.mono _ _ _)
   | (with_reducible exact LeO.refl _)
   | (with_reducible exact LeO.none _)
   | (with_reducible refine LeO.ite ?_ ?_)
   | (with_reducible refine LeO.bind ?_ (fun _ => ?_))
   | exact ih0 _ _ _ _ _ _ _
   | exact ih1 _ _ _ _ _ _ _ _ _ _ _
   | exact ih2 _ _ _ _ _ _ _ _ _ _ _ _ _ _
   | exact ih3 _ _ _ _
   | exact ih4 _ _ _ _ _ _ _
   | exact fixpoint_deriveAll.mono _ _ _
   | exact slices_Contains_int_int.mono _ _ _
   | exact LeO.none _
   | refine LeO.ite ?_ ?_
   | refine LeO.bind ?_ (fun _ => ?_)
  ·intro y0 y1 y2 y3 y4 y5 y6 y7 y8 y9 y10
   unfold fixpoint_propagate.l1
   repeat' first
   | (with_reducible exact ih0 _ _ _ _ _ _ _)
   | (with_reducible exact ih1 _ _ _ _ _ _ _ _ _ _ _)
   | (with_reducible exact ih2 _ _ _ _ _ _ _ _ _ _ _ _ _ _)
   | (with_reducible exact ih3 _ _ _ _)
   | (with_reducible exact ih4 _ _ _ _ _ _ _)
   | (with_reducible exact fixpoint_deriveAll.mono _ _ _)
   | (with_reducible exact slices_Contains_int_int.mono _ _ _)
   | (with_reducible exact LeO.refl _)
   | (with_reducible exact LeO.none _)
   | (with_reducible refine LeO.ite ?_ ?_)
   | (with_reducible refine LeO.bind ?_ (fun _ => ?_))
   | exact ih0 _ _ _ _ _ _ _
   | exact ih1 _ _ _ _ _ _ _ _ _ _ _
   | exact ih2 _ _ _ _ _ _ _ _ _ _ _ _ _ _
   | exact ih3 _ _ _ _
   | exact ih4 _ _ _ _ _ _ _
   | exact fixpoint_deriveAll.mono _ _ _
   | exact slices_Contains_int_int.mono _ _ _
   | exact LeO.none _
   | refine LeO.ite ?_ ?_
   | refine LeO.bind ?_ (fun _ => ?_)
  ·intro y0 y1 y2 y3 y4 y5 y6 y7 y8 y9 y10 y11 y12 y13
   unfold fixpoint_propagate.l2
   repeat' first
   | (with_reducible exact ih0 _ _ _ _ _ _ _)
   | (with_reducible exact ih1 _ _ _ _ _ _ _ _ _ _ _)
   | (with_reducible exact ih2 _ _ _ _ _ _ _ _ _ _ _ _ _ _)
   | (with_reducible exact ih3 _ _ _ _)
   | (with_reducible exact ih4 _ _ _ _ _ _ _)
   | (with_reducible exact fixpoint_deriveAll.mono _ _ _)
   | (with_reducible exact slices_Contains_int_int.mono _ _ _)
   | (with_reducible exact LeO.refl _)
   | (with_reducible exact LeO.none _)
   | (with_reducible refine LeO.ite ?_ ?_)
   | (with_reducible refine LeO.bind ?_ (fun _ => ?_))
   | exact ih0 _ _ _ _ _ _ _
   | exact ih1 _ _ _ _ _ _ _ _ _ _ _
   | exact ih2 _ _ _ _ _ _ _ _ _ _ _ _ _ _
   | exact ih3 _ _ _ _
   | exact ih4 _ _ _ _ _ _ _
   | exact fixpoint_deriveAll.mono _ _ _
   | exact slices_Contains_int_int.mono _ _ _
   | exact LeO.none _
   | refine LeO.ite ?_ ?_
   | refine LeO.bind ?_ (fun _ => ?_)
  ·intro y0 y1 y2 y3
   unfold fixpoint_propagate.l3
   repeat' first
   | (with_reducible exact ih0 _ _ _ _ _ _ _)
   | (with_reducible exact ih1 _ _ _ _ _ _ _ _ _ _ _)
   | (with_reducible exact ih2 _ _ _ _ _ _ _ _ _ _ _ _ _ _)
   | (with_reducible exact ih3 _ _ _ _)
   | (with_reducible exact ih4 _ _ _ _ _ _ _)
   | (with_reducible exact fixpoint_deriveAll.mono _ _ _)
   | (with_reducible exact slices_Contains_int_int.mono _ _ _)
   | (with_reducible exact LeO.refl _)
   | (with_reducible exact LeO.none _)
   | (with_reducible refine LeO.ite ?_ ?_)
   | (with_reducible refine LeO.bind ?_ (fun _ => ?_))
   | exact ih0 _ _ _ _ _ _ _
   | exact ih1 _ _ _ _ _ _ _ _ _ _ _
   | exact ih2 _ _ _ _ _ _ _ _ _ _ _ _ _ _
   | exact ih3 _ _ _ _
   | exact ih4 _ _ _ _ _ _ _
   | exact fixpoint_deriveAll.mono _ _ _
   | exact slices_Contains_int_int.mono _ _ _
   | exact LeO.none _
   | refine LeO.ite ?_ ?_
   | refine LeO.bind ?_ (fun _ => ?_)
  ·intro y0 y1 y2 y3 y4 y5 y6
   unfold fixpoint_propagate.l4
   repeat' first
   | (with_reducible exact ih0 _ _ _ _ _ _ _)
   | (with_reducible exact ih1 _ _ _ _ _ _ _ _ _ _ _)
   | (with_reducible exact ih2 _ _ _ _ _ _ _ _ _ _ _ _ _ _)
   | (with_reducible exact ih3 _ _ _ _)
   | (with_reducible exact ih4 _ _ _ _ _ _ _)
   | (with_reducible exact fixpoint_deriveAll.mono _ _ _)
   | (with_reducible exact slices_Contains_int_int.mono _ _ _)
   | (with_reducible exact LeO.refl _)
   | (with_reducible exact LeO.none _)
   | (with_reducible refine LeO.ite ?_ ?_)
   | (with_reducible refine LeO.bind ?_ (fun _ => ?_))
   | exact ih0 _ _ _ _ _ _ _
   | exact ih1 _ _ _ _ _ _ _ _ _ _ _
   | exact ih2 _ _ _ _ _ _ _ _ _ _ _ _ _ _
   | exact ih3 _ _ _ _
   | exact ih4 _ _ _ _ _ _ _
   | exact fixpoint_deriveAll.mono _ _ _
   | exact slices_Contains_int_int.mono _ _ _
   | exact LeO.none _
   | refine LeO.ite ?_ ?_
   | refine LeO.bind ?_ (fun _ => ?_)
theorem fixpoint_propagate.mono : ∀ a0 a1 a2 k, LeO (fixpoint_propagate.f k a0 a1 a2) (fixpoint_propagate.f (k + 1) a0 a1 a2) := by
 intro a0 a1 a2 k
 obtain ⟨ih0, ih1, ih2, ih3, ih4⟩ := fixpoint_propagate.mono_l k
 unfold fixpoint_propagate.f
 repeat' first
   | (with_reducible exact ih0 _ _ _ _ _ _ _)
   | (with_reducible exact ih1 _ _ _ _ _ _ _ _ _ _ _)
   | (with_reducible exact ih2 _ _ _ _ _ _ _ _ _ _ _ _ _ _)
   | (with_reducible exact ih3 _ _ _ _)
   | (with_reducible exact ih4 _ _ _ _ _ _ _)
   | (with_reducible exact fixpoint_deriveAll.mono _ _ _)
   | (with_reducible exact slices_Contains_int_int.mono _ _ _)
   | (with_reducible exact LeO.refl _)
   | (with_reducible exact LeO.none _)
   | (with_reducible refine LeO.ite ?_ ?_)
   | (with_reducible refine LeO.bind ?_ (fun _ => ?_))
   | exact ih0 _ _ _ _ _ _ _
   | exact ih1 _ _ _ _ _ _ _ _ _ _ _
   | exact ih2 _ _ _ _ _ _ _ _ _ _ _ _ _ _
   | exact ih3 _ _ _ _
   | exact ih4 _ _ _ _ _ _ _
   | exact fixpoint_deriveAll.mono _ _ _
   | exact slices_Contains_int_int.mono _ _ _
   | exact LeO.none _
   | refine LeO.ite ?_ ?_
   | refine LeO.bind ?_ (fun _ => ?_)
def fixpoint_propagate.T18 : Bool × List (List Nat × List Nat) := (true, [([], []), ([], []), ([0, 1], [0, 1]), ([2], [2]), ([], []), ([], []), ([4, 5], [4, 5]), ([6], [6]), ([], []), ([7, 8], [7, 8]), ([3, 9], [3, 9]), ([10, 9, 0, 1, 2, 3, 4, 5, 6, 7, 8, 9, 10], [10])])
def fixpoint_propagate.B18 : List Nat := [0, 0, 3, 7, 0, 0, 48, 112, 0, 496, 1023, 2047]
theorem fixpoint_propagate.tab18 : rtab .any (opsOf Try.f99 18) = fixpoint_propagate.T18 := by kernel_rfl
theorem fixpoint_propagate.bits18 : waitsOk fixpoint_propagate.T18.2 fixpoint_propagate.B18 = true := by kernel_rfl
set_option maxHeartbeats 8000000 in
set_option maxRecDepth 100000 in
theorem fixpoint_propagate.calls (k : Nat) (A0 : Option Addr) (c0 : Nat) (l0 : List (List (S58))) (P1_ : Nat → Prop) (u9000_ : Value) (l1 : List Int) (P2_ : Nat → Prop) (u9001_ : Value) (l2 : List Int) (r : List Int) (w0 w : World) (hB : Below w0.heap.size w0 w) (hr0 : ∀ W_, Kept w W_ (fun k_ => P1_ k_ ∨ P2_ k_) → Kd.C (Kd.slice 58 k58) W_ A0 l0.length l0) (hc0 : l0.length ≤ c0) (ho1 : Kd.R (Kd.int .i64) 3 w w0.heap.size P1_ u9000_ l1) (hp1_2 : ∀ k_, P1_ k_ → ¬ P2_ k_) (ho2 : Kd.R (Kd.int .i64) 3 w w0.heap.size P2_ u9001_ l2) (hp2_1 : ∀ k_, P2_ k_ → ¬ P1_ k_) (h : fixpoint_propagate.f k l0 l1 l2 = some r) :
  Calls Try.prog 99 #[.slice A0 l0.length c0, u9000_, u9001_] w fun e w' => e = .returned (.tuple #[]) ∧ Kd.R (Kd.int .i64) 3 w' w0.heap.size (fun k_ => ((P1_ k_ ∨ P2_ k_) ∨ w.heap.size ≤ k_)) u9000_ r ∧ Below w0.heap.size w0 w' ∧ Kept w w' (fun k_ => P1_ k_ ∨ P2_ k_) := by
 have hu58 := Try.underlying58
 have HR0 := Aside0.mk hr0
 have HC0 := Aside0.mk hc0
 clear hr0 hc0
 have HO1 := Aside0.mk (show Kd.R (Kd.int .i64) 3 w w0.heap.size (fun k_ => ((P1_ k_ ∨ P2_ k_) ∨ w.heap.size ≤ k_) ∧ some k_ ≠ (u9001_ : Value).ownBlock) u9000_ l1 from Kd.R_mono ho1 (fun k_ hk => ⟨(.inl (.inl hk)), fun e_ => hp1_2 k_ hk (ho2.1 k_ e_.symm)⟩))
 have HO2 := Aside0.mk (show Kd.R (Kd.int .i64) 3 w w0.heap.size (fun k_ => ((P1_ k_ ∨ P2_ k_) ∨ w.heap.size ≤ k_) ∧ some k_ ≠ (u9000_ : Value).ownBlock) u9001_ l2 from Kd.R_mono ho2 (fun k_ hk => ⟨(.inl (.inr hk)), fun e_ => hp2_1 k_ hk (ho1.1 k_ e_.symm)⟩))
 have HK := Aside0.mk (Kept.refl w (fun k_ => P1_ k_ ∨ P2_ k_))
 have HW0 := Aside0.mk hB.size
 have HB := Aside0.mk hB
 clear hB
 have H : (if 0 ≤ (l0.length : Int) then (if ((l0.length : Int) : Int).toNat ≤ 11728124029610 then (fixpoint_propagate.l0 k l0 l1 l2 (List.replicate ((l0.length : Int) : Int).toNat []) l0 (l0.length : Int) 0) else (none)) else (none)) = some r := h
 clear h
 by_cases c4 : 0 ≤ (l0.length : Int)
 ·rw [if_pos c4] at H
  have c4b0 := eq_true c4
  have c4b1 : decide (0 ≤ (l0.length : Int)) = true := decide_eq_true c4
  clear c4
  by_cases c5 : ((l0.length : Int) : Int).toNat ≤ 11728124029610
  ·rw [if_pos c5] at H
   have c5b0 := eq_true c5
   have c5b1 : decide (((l0.length : Int) : Int).toNat ≤ 11728124029610) = true := decide_eq_true c5
   clear c5
   obtain ⟨y125, hy125⟩ : ∃ y_ : List (List Int), y_ = (List.replicate ((l0.length : Int) : Int).toNat []) := ⟨_, rfl⟩
   replace H : (fixpoint_propagate.l0 k l0 l1 l2 y125 l0 (l0.length : Int) 0) = some r := by first | (rw [hy125]; with_reducible exact H) | (have H2_ := (Option.bind_some _ _).symm.trans H; rw [hy125]; with_reducible exact H2_) | (have H2_ := (Option.bind_some _ _).symm.trans H; with_reducible exact H2_) | with_reducible exact H | (rw [hy125]; exact H) | exact H
   have Ny125 := Aside0.mk hy125
   clear hy125
   have H' := Aside0.mk H
   clear H
   go_enter Try.func99, Try.ntmps99
   go_wp2_with (first | ((with_reducible refine gate_dst (N := 19) rfl ?_); refine Kd.S_make (Kd.slice 3 (Kd.int .i64)) _ 29 rfl (N := 19) rfl 190 _ _ rfl (l0.length : Int) rfl rfl Try.underlying190 (.slice none 0 0) 24 info29 rfl (by decide) (by omega) [] (ok := fun _ => True) (okp := fun _ => True) ⟨_, rfl, Kd.R_nil _ _ _ _ _⟩ (fun _ hk => hk) trivial (of_decide_eq_true (by first | (with_reducible assumption) | assumption)) (Nat.le_trans (Nat.mul_le_mul_right _ (of_decide_eq_true (by first | (with_reducible assumption) | assumption) : (l0.length : Int).toNat ≤ 11728124029610)) (by omega)) (Below.refl _ _) (Nat.le_refl _) ?_; intro v126 w6 ho7 hb hg_ hnew_; clear hg_ hnew_; (first | rw [← Ny125.out] at ho7 | (simp only [Int.reduceToNat] at ho7; rw [← Ny125.out] at ho7)); have n0_ := Aside0.mk (Kd.R_below (by (with_reducible repeat (first | apply Kd.R_alloc | apply Kd.R_drewN | apply Kd.R_drew)); exact HO1.out) hb); have n1_ := Aside0.mk (Kd.R_below (by (with_reducible repeat (first | apply Kd.R_alloc | apply Kd.R_drewN | apply Kd.R_drew)); exact HO2.out) hb); have n2_ := Aside0.mk (Kd.S_lower (Kd.S_new' (Kd.S_new' (Kd.S_newM (M := fun k_ => ((P1_ k_ ∨ P2_ k_) ∨ w.heap.size ≤ k_)) ho7 (by first | exact HK.out.1 | exact (show Kept w _ (fun k_ => P1_ k_ ∨ P2_ k_) from by repeat (first | (with_reducible first | exact HK.out | apply Kept.alloc | apply Kept.drewN | apply Kept.drew) | exact HK.out)).1) (fun k_ h_ => .inr h_)) (Kd.R_lt (by (with_reducible repeat (first | apply Kd.R_alloc | apply Kd.R_drewN | apply Kd.R_drew)); exact HO1.out))) (Kd.R_lt (by (with_reducible repeat (first | apply Kd.R_alloc | apply Kd.R_drewN | apply Kd.R_drew)); exact HO2.out))) (below_size (by repeat (first | (with_reducible first | exact HB.out | apply below_alloc | apply pw_below_drewN | apply below_drew1) | exact HB.out)))); have n3_ := Aside0.mk (Kept.below (S := (fun k_ => P1_ k_ ∨ P2_ k_)) (by repeat (first | (with_reducible first | exact HK.out | apply Kept.alloc | apply Kept.drewN | apply Kept.drew) | exact HK.out)) hb); have n4_ := Aside0.mk (below_step (by repeat (first | (with_reducible first | exact HB.out | apply below_alloc | apply pw_below_drewN | apply below_drew1) | exact HB.out)) hb); clear HO1; clear HO2; clear HK; clear HB; have HO1 := n0_; have HO2 := n1_; have HO127 := n2_; have HK := n3_; have HB := n4_; clear n0_ n1_ n2_ n3_ n4_; clear hb ho7))
   go_loopg [22] k (fun kq v22 w' => ∃ (x6_1 : List (List Int)) (x22_1 : Int), v22 = .int .i64 x22_1 ∧ Aside0 (fixpoint_propagate.l0 kq l0 l1 l2 x6_1 l0 (l0.length : Int) x22_1 = some r) ∧ Aside0 (kq ≤ k) ∧ Aside0 (Kd.R (Kd.int .i64) 3 w' w0.heap.size (fun k_ => ((P1_ k_ ∨ P2_ k_) ∨ w.heap.size ≤ k_) ∧ some k_ ≠ (u9001_ : Value).ownBlock) u9000_ l1) ∧ Aside0 (Kd.Q (Kd.int .i64) 3 w' w0.heap.size (fun k_ => ((P1_ k_ ∨ P2_ k_) ∨ w.heap.size ≤ k_) ∧ some k_ ≠ (u9000_ : Value).ownBlock) u9001_ l2) ∧ Aside0 (Kd.S (Kd.slice 3 (Kd.int .i64)) 29 w' w0.heap.size (fun k_ => ((P1_ k_ ∨ P2_ k_) ∨ w.heap.size ≤ k_) ∧ some k_ ≠ (u9000_ : Value).ownBlock ∧ some k_ ≠ (u9001_ : Value).ownBlock) v126 x6_1) ∧ Aside0 (Kept w w' (fun k_ => P1_ k_ ∨ P2_ k_)) ∧ Aside0 (Below w0.heap.size w0 w'))
   case atStart => exact ⟨(y125), (0), (by first | rfl | (simp; done) | (simp [*]; done) | (simp [isEmpty_bne]; done)), H', ⟨Nat.le_refl _⟩, ⟨by (with_reducible repeat (first | apply Kd.R_alloc | apply Kd.R_drewN | apply Kd.R_drew)); exact HO1.out⟩, ⟨Kd.Q_of_R (by (with_reducible repeat (first | apply Kd.R_alloc | apply Kd.R_drewN | apply Kd.R_drew)); exact HO2.out)⟩, ⟨by (with_reducible repeat (first | apply Kd.S_alloc | apply Kd.S_drewN | apply Kd.S_drew)); exact Kd.S_mono HO127.out (fun _ hk => ⟨hk.1.1.1, ⟨hk.1.2, hk.2⟩⟩)⟩, ⟨by repeat (first | (with_reducible first | exact HK.out | apply Kept.alloc | apply Kept.drewN | apply Kept.drew) | exact HK.out)⟩, ⟨by repeat (first | (with_reducible first | exact HB.out | apply below_alloc | apply pw_below_drewN | apply below_drew1) | exact HB.out)⟩⟩
   case round =>
    clear H'
    try clear p1
    try clear p2
    try clear c4
    try clear c4b0
    try clear c4b1
    try clear c5
    try clear c5b0
    try clear c5b1
    obtain ⟨x6_1, x22_1, rfl, HA, HK1, HO_1, HO_2, HO_6, HK, HB⟩ := hrel
    cases gk with
    | zero => exact absurd HA.out (by simp [fixpoint_propagate.l0])
    | succ k1 =>
     have H := HA.out
     clear HA
     simp only [fixpoint_propagate.l0] at H
     by_cases c8 : x22_1 < (l0.length : Int)
     ·rw [if_pos c8] at H
      have c8b0 : decide (x22_1 < (l0.length : Int)) = true := decide_eq_true c8
      clear c8
      by_cases c9 : 0 ≤ x22_1
      ·rw [if_pos c9] at H
       have c9b0 : decide (0 ≤ x22_1) = true := decide_eq_true c9
       clear c9
       by_cases c10 : x22_1 < (l0.length : Int)
       ·rw [if_pos c10] at H
        have c10b0 : decide (x22_1 < (l0.length : Int)) = true := decide_eq_true c10
        clear c10
        have H' := Aside0.mk H
        clear H
        have p128 : 0 ≤ (x22_1 : Int) := of_decide_eq_true (by first | (with_reducible assumption) | assumption)
        have q128 : x22_1 < (l0.length : Int) := of_decide_eq_true (by first | (with_reducible assumption) | assumption)
        obtain ⟨ad128, A128_0, c128_0, e128, hx128_0, hl128_0, hi128_0⟩ := atk_L3 HR0.out (HK.out) x22_1 p128 q128
        cases e128
        have HR128_0 := Aside0.mk hi128_0
        have HC128_0 := Aside0.mk hl128_0
        clear hi128_0 hl128_0
        replace p128 := eq_true p128
        replace q128 := eq_true q128
        go_wp2
        go_loopg [29] k1 (fun kq v29 w' => ∃ (x6_2 : List (List Int)) (x29_2 : Int), v29 = .int .i64 x29_2 ∧ Aside0 (fixpoint_propagate.l1 kq l0 l1 l2 x6_2 x22_1 l0 (l0.length : Int) x22_1 (rd_L3 l0 x22_1) ((rd_L3 l0 x22_1).length : Int) x29_2 = some r) ∧ Aside0 (kq ≤ k1) ∧ Aside0 (Kd.R (Kd.int .i64) 3 w' w0.heap.size (fun k_ => ((P1_ k_ ∨ P2_ k_) ∨ w.heap.size ≤ k_) ∧ some k_ ≠ (u9001_ : Value).ownBlock) u9000_ l1) ∧ Aside0 (Kd.Q (Kd.int .i64) 3 w' w0.heap.size (fun k_ => ((P1_ k_ ∨ P2_ k_) ∨ w.heap.size ≤ k_) ∧ some k_ ≠ (u9000_ : Value).ownBlock) u9001_ l2) ∧ Aside0 (Kd.S (Kd.slice 3 (Kd.int .i64)) 29 w' w0.heap.size (fun k_ => ((P1_ k_ ∨ P2_ k_) ∨ w.heap.size ≤ k_) ∧ some k_ ≠ (u9000_ : Value).ownBlock ∧ some k_ ≠ (u9001_ : Value).ownBlock) v126 x6_2) ∧ Aside0 (Kept w w' (fun k_ => P1_ k_ ∨ P2_ k_)) ∧ Aside0 (Below w0.heap.size w0 w'))
        case atStart => exact ⟨(x6_1), (0), (by first | rfl | (simp; done) | (simp [*]; done) | (simp [isEmpty_bne]; done)), H', ⟨Nat.le_refl _⟩, ⟨by (with_reducible repeat (first | apply Kd.R_alloc | apply Kd.R_drewN | apply Kd.R_drew)); exact HO_1.out⟩, ⟨by (with_reducible repeat (first | apply Kd.Q_alloc | apply Kd.Q_drewN | apply Kd.Q_drew)); exact HO_2.out⟩, ⟨by (with_reducible repeat (first | apply Kd.S_alloc | apply Kd.S_drewN | apply Kd.S_drew)); exact HO_6.out⟩, ⟨by repeat (first | (with_reducible first | exact HK.out | apply Kept.alloc | apply Kept.drewN | apply Kept.drew) | exact HK.out)⟩, ⟨by repeat (first | (with_reducible first | exact HB.out | apply below_alloc | apply pw_below_drewN | apply below_drew1) | exact HB.out)⟩⟩
        case round =>
         clear H'
         try clear c1
         try clear p1
         try clear q1
         try clear hx1
         try clear p2
         try clear c4
         try clear c4b0
         try clear c4b1
         try clear c5
         try clear c5b0
         try clear c5b1
         try clear c8
         try clear c8b0
         try clear c9
         try clear c9b0
         try clear c10
         try clear c10b0
         try clear hx128_0
         try clear p1
         try clear p128
         try clear p2
         try clear q128
         obtain ⟨x6_2, x29_2, rfl, HA, HK2, HO_1, HO_2, HO_6, HK, HB⟩ := hrel
         cases gk with
         | zero => exact absurd HA.out (by simp [fixpoint_propagate.l1])
         | succ k2 =>
          have H := HA.out
          clear HA
          simp only [fixpoint_propagate.l1] at H
          by_cases c11 : x29_2 < ((rd_L3 l0 x22_1).length : Int)
          ·rw [if_pos c11] at H
           have c11b0 : decide (x29_2 < ((rd_L3 l0 x22_1).length : Int)) = true := decide_eq_true c11
           clear c11
           by_cases c12 : 0 ≤ x29_2
           ·rw [if_pos c12] at H
            have c12b0 : decide (0 ≤ x29_2) = true := decide_eq_true c12
            clear c12
            by_cases c13 : x29_2 < ((rd_L3 l0 x22_1).length : Int)
            ·rw [if_pos c13] at H
             have c13b0 : decide (x29_2 < ((rd_L3 l0 x22_1).length : Int)) = true := decide_eq_true c13
             clear c13
             have H' := Aside0.mk H
             clear H
             have p129 : 0 ≤ (x29_2 : Int) := of_decide_eq_true (by first | (with_reducible assumption) | assumption)
             have q129 : x29_2 < ((rd_L3 l0 x22_1).length : Int) := of_decide_eq_true (by first | (with_reducible assumption) | assumption)
             obtain ⟨ad129, A129_1, c129_1, e129, hx129_0, hx129_1, hl129_1, hi129_1⟩ := atk_T58 HR128_0.out (HK.out) x29_2 p129 q129
             cases e129
             have HR129_1 := Aside0.mk hi129_1
             have HC129_1 := Aside0.mk hl129_1
             clear hi129_1 hl129_1
             replace p129 := eq_true p129
             replace q129 := eq_true q129
             go_wp2_with (first | ((with_reducible refine gate_dst (N := 10) rfl ?_); refine box_event ?hg (N := 10) ?hd (cs := #[.int .i64 0, .slice none 0 0]) (t := 58) ?hr ?_; (case hd => rfl); (case hg => rfl); (case hr => first | (go_simp; done) | (go_simp; rfl)); intro gb130 hg w14 hbox hb; have n0_ := Aside0.mk (Kd.R_below (by (with_reducible repeat (first | apply Kd.R_alloc | apply Kd.R_drewN | apply Kd.R_drew)); exact HO_1.out) hb); have n1_ := Aside0.mk (Kd.Q_below (by (with_reducible repeat (first | apply Kd.Q_alloc | apply Kd.Q_drewN | apply Kd.Q_drew)); exact HO_2.out) hb); have n2_ := Aside0.mk (Kd.S_below (by (with_reducible repeat (first | apply Kd.S_alloc | apply Kd.S_drewN | apply Kd.S_drew)); exact HO_6.out) hb); have n3_ := Aside0.mk (Kept.below (S := (fun k_ => P1_ k_ ∨ P2_ k_)) (by repeat (first | (with_reducible first | exact HK.out | apply Kept.alloc | apply Kept.drewN | apply Kept.drew) | exact HK.out)) hb); have n4_ := Aside0.mk (below_step (by repeat (first | (with_reducible first | exact HB.out | apply below_alloc | apply pw_below_drewN | apply below_drew1) | exact HB.out)) hb); have n5_ := Aside0.mk (hbox); have n6_ := Aside0.mk ((by rw [hg]; exact (by first | exact HK.out.1 | exact (show Kept w _ (fun k_ => P1_ k_ ∨ P2_ k_) from by repeat (first | (with_reducible first | exact HK.out | apply Kept.alloc | apply Kept.drewN | apply Kept.drew) | exact HK.out)).1) : w.heap.size ≤ gb130)); have n7_ := Aside0.mk ((by rw [hg]; exact (below_size (by repeat (first | (with_reducible first | exact HB.out | apply below_alloc | apply pw_below_drewN | apply below_drew1) | exact HB.out))) : w0.heap.size ≤ gb130)); clear HO_1; clear HO_2; clear HO_6; clear HK; clear HB; have HO_1 := n0_; have HO_2 := n1_; have HO_6 := n2_; have HK := n3_; have HB := n4_; have BK130 := n5_; have GW130 := n6_; have GE130 := n7_; clear n0_ n1_ n2_ n3_ n4_ n5_ n6_ n7_; clear hb hbox hg; have hcz15_0 : w14.cell? ⟨gb130, 0, none⟩ = some (.int .i64 0) := (blk_cell BK130.out 0).trans rfl; have hcz15_1 : w14.cell? ⟨gb130, 1, none⟩ = some (.slice none 0 0) := (blk_cell BK130.out 1).trans rfl; have hfz15_0 := blk_frozen BK130.out 0; have hfz15_1 := blk_frozen BK130.out 1))
             go_loopg [36] k2 (fun kq v36 w' => ∃ (x6_3 : List (List Int)) (x36_3 : Int), v36 = .int .i64 x36_3 ∧ Aside0 (fixpoint_propagate.l2 kq l0 l1 l2 x6_3 x22_1 l0 (l0.length : Int) x22_1 (rd_L3 l0 x22_1) ((rd_L3 l0 x22_1).length : Int) x29_2 ((rd_T58 (rd_L3 l0 x22_1) x29_2).f1) (((rd_T58 (rd_L3 l0 x22_1) x29_2).f1).length : Int) x36_3 = some r) ∧ Aside0 (kq ≤ k2) ∧ Aside0 (Kd.R (Kd.int .i64) 3 w' w0.heap.size (fun k_ => ((P1_ k_ ∨ P2_ k_) ∨ w.heap.size ≤ k_) ∧ some k_ ≠ (u9001_ : Value).ownBlock) u9000_ l1) ∧ Aside0 (Kd.Q (Kd.int .i64) 3 w' w0.heap.size (fun k_ => ((P1_ k_ ∨ P2_ k_) ∨ w.heap.size ≤ k_) ∧ some k_ ≠ (u9000_ : Value).ownBlock) u9001_ l2) ∧ Aside0 (Kd.S (Kd.slice 3 (Kd.int .i64)) 29 w' w0.heap.size (fun k_ => ((P1_ k_ ∨ P2_ k_) ∨ w.heap.size ≤ k_) ∧ some k_ ≠ (u9000_ : Value).ownBlock ∧ some k_ ≠ (u9001_ : Value).ownBlock) v126 x6_3) ∧ Aside0 (w'.heap[gb130]? = some (.cells #[.int .i64 ((rd_T58 (rd_L3 l0 x22_1) x29_2).f0), (.slice A129_1 ((rd_T58 (rd_L3 l0 x22_1) x29_2).f1).length c129_1)] 58 (0, 0))) ∧ Aside0 (Kept w w' (fun k_ => P1_ k_ ∨ P2_ k_)) ∧ Aside0 (Below w0.heap.size w0 w'))
             case atStart => exact ⟨(x6_2), (0), (by first | rfl | (simp; done) | (simp [*]; done) | (simp [isEmpty_bne]; done)), H', ⟨Nat.le_refl _⟩, ⟨by (with_reducible repeat (first | apply Kd.R_alloc | apply Kd.R_drewN | apply Kd.R_drew)); exact Kd.R_mono (Kd.R_far (p := ⟨gb130, 1, none⟩) (Kd.R_far (p := ⟨gb130, 0, none⟩) (Kd.R_types HO_1.out BK130.out (by decide)) (fun _ hk => hk.2) (.int .i64 ((rd_T58 (rd_L3 l0 x22_1) x29_2).f0))) (fun _ hk => hk.2) (.slice A129_1 ((rd_T58 (rd_L3 l0 x22_1) x29_2).f1).length c129_1)) (fun _ hk => ⟨hk.1.1, hk.1.2⟩)⟩, ⟨by (with_reducible repeat (first | apply Kd.Q_alloc | apply Kd.Q_drewN | apply Kd.Q_drew)); exact Kd.Q_mono (Kd.Q_far (p := ⟨gb130, 1, none⟩) (Kd.Q_far (p := ⟨gb130, 0, none⟩) (Kd.Q_types HO_2.out BK130.out (by decide)) (fun _ hk => hk.2) (.int .i64 ((rd_T58 (rd_L3 l0 x22_1) x29_2).f0))) (fun _ hk => hk.2) (.slice A129_1 ((rd_T58 (rd_L3 l0 x22_1) x29_2).f1).length c129_1)) (fun _ hk => ⟨hk.1.1, hk.1.2⟩)⟩, ⟨by (with_reducible repeat (first | apply Kd.S_alloc | apply Kd.S_drewN | apply Kd.S_drew)); exact Kd.S_mono (Kd.S_far (p := ⟨gb130, 1, none⟩) (Kd.S_far (p := ⟨gb130, 0, none⟩) (Kd.S_types HO_6.out BK130.out (by decide)) (fun _ hk => hk.2) (.int .i64 ((rd_T58 (rd_L3 l0 x22_1) x29_2).f0))) (fun _ hk => hk.2) (.slice A129_1 ((rd_T58 (rd_L3 l0 x22_1) x29_2).f1).length c129_1)) (fun _ hk => ⟨hk.1.1, ⟨hk.1.2.1, hk.1.2.2⟩⟩)⟩, ⟨by (with_reducible repeat (first | refine blk_drewN ?_ _ | refine blk_drew ?_ | refine blk_alloc ?_ _)); refine blk_put (cs := #[.int .i64 ((rd_T58 (rd_L3 l0 x22_1) x29_2).f0), .slice none 0 0]) ?_ 1 _ rfl; (with_reducible repeat (first | refine blk_drewN ?_ _ | refine blk_drew ?_ | refine blk_alloc ?_ _)); refine blk_put (cs := #[.int .i64 0, .slice none 0 0]) ?_ 0 _ rfl; (with_reducible repeat (first | refine blk_drewN ?_ _ | refine blk_drew ?_ | refine blk_alloc ?_ _)); exact BK130.out⟩, ⟨by repeat (first | (with_reducible first | exact HK.out | apply Kept.alloc | apply Kept.drewN | apply Kept.drew | refine Kept.setCell ?_ (.inr GW130.out) _) | exact HK.out)⟩, ⟨by repeat (first | (with_reducible first | exact HB.out | apply below_alloc | apply pw_below_drewN | apply below_drew1 | refine below_set ?_ GE130.out) | exact HB.out)⟩⟩
             case round =>
              clear H'
              try clear c1
              try clear p1
              try clear q1
              try clear hx1
              try clear p2
              try clear c4
              try clear c4b0
              try clear c4b1
              try clear c5
              try clear c5b0
              try clear c5b1
              try clear c8
              try clear c8b0
              try clear c9
              try clear c9b0
              try clear c10
              try clear c10b0
              try clear c11
              try clear c11b0
              try clear c12
              try clear c12b0
              try clear p12
              try clear q12
              try clear hx12
              try clear c13
              try clear c13b0
              try clear hcz15_0
              try clear hcz15_1
              try clear hfz15_0
              try clear hfz15_1
              try clear hx128_0
              try clear hx129_0
              try clear hx129_1
              try clear p1
              try clear p128
              try clear p129
              try clear p2
              try clear q1
              try clear q128
              try clear q129
              obtain ⟨x6_3, x36_3, rfl, HA, HK3, HO_1, HO_2, HO_6, BK130, HK, HB⟩ := hrel
              cases gk with
              | zero => exact absurd HA.out (by simp [fixpoint_propagate.l2])
              | succ k3 =>
               have H := HA.out
               clear HA
               simp only [fixpoint_propagate.l2] at H
               by_cases c16 : x36_3 < (((rd_T58 (rd_L3 l0 x22_1) x29_2).f1).length : Int)
               ·rw [if_pos c16] at H
                have c16b0 : decide (x36_3 < (((rd_T58 (rd_L3 l0 x22_1) x29_2).f1).length : Int)) = true := decide_eq_true c16
                clear c16
                by_cases c17 : 0 ≤ x36_3
                ·rw [if_pos c17] at H
                 have c17b0 : decide (0 ≤ x36_3) = true := decide_eq_true c17
                 clear c17
                 by_cases c18 : x36_3 < (((rd_T58 (rd_L3 l0 x22_1) x29_2).f1).length : Int)
                 ·rw [if_pos c18] at H
                  have c18b0 : decide (x36_3 < (((rd_T58 (rd_L3 l0 x22_1) x29_2).f1).length : Int)) = true := decide_eq_true c18
                  clear c18
                  by_cases c19 : 0 ≤ (rd ((rd_T58 (rd_L3 l0 x22_1) x29_2).f1) x36_3)
                  ·rw [if_pos c19] at H
                   have c19b0 : decide (0 ≤ (rd ((rd_T58 (rd_L3 l0 x22_1) x29_2).f1) x36_3)) = true := decide_eq_true c19
                   clear c19
                   by_cases c20 : (rd ((rd_T58 (rd_L3 l0 x22_1) x29_2).f1) x36_3) < (x6_3.length : Int)
                   ·rw [if_pos c20] at H
                    have c20b0 : decide ((rd ((rd_T58 (rd_L3 l0 x22_1) x29_2).f1) x36_3) < (x6_3.length : Int)) = true := decide_eq_true c20
                    clear c20
                    replace H := Option.bind_eq_some_iff.mp H
                    obtain ⟨t133, A210, H⟩ := H
                    replace H : (if t133 = true then (fixpoint_propagate.l2 k3 l0 l1 l2 x6_3 x22_1 l0 (l0.length : Int) x22_1 (rd_L3 l0 x22_1) ((rd_L3 l0 x22_1).length : Int) x29_2 ((rd_T58 (rd_L3 l0 x22_1) x29_2).f1) (((rd_T58 (rd_L3 l0 x22_1) x29_2).f1).length : Int) (wrap64 (x36_3 + 1))) else (if (rd_L1 x6_3 (rd ((rd_T58 (rd_L3 l0 x22_1) x29_2).f1) x36_3)).length < 17592186044416 then (fixpoint_propagate.l2 k3 l0 l1 l2 (x6_3.set ((rd ((rd_T58 (rd_L3 l0 x22_1) x29_2).f1) x36_3) : Int).toNat ((rd_L1 x6_3 (rd ((rd_T58 (rd_L3 l0 x22_1) x29_2).f1) x36_3)) ++ [x22_1])) x22_1 l0 (l0.length : Int) x22_1 (rd_L3 l0 x22_1) ((rd_L3 l0 x22_1).length : Int) x29_2 ((rd_T58 (rd_L3 l0 x22_1) x29_2).f1) (((rd_T58 (rd_L3 l0 x22_1) x29_2).f1).length : Int) (wrap64 (x36_3 + 1))) else (none))) = some r := H
                    have A21 := Aside0.mk A210
                    clear A210
                    by_cases c22 : t133 = true
                    ·subst c22
                     have H1 : (fixpoint_propagate.l2 k3 l0 l1 l2 x6_3 x22_1 l0 (l0.length : Int) x22_1 (rd_L3 l0 x22_1) ((rd_L3 l0 x22_1).length : Int) x29_2 ((rd_T58 (rd_L3 l0 x22_1) x29_2).f1) (((rd_T58 (rd_L3 l0 x22_1) x29_2).f1).length : Int) (wrap64 (x36_3 + 1))) = some r := by rw [if_pos rfl] at H; exact H
                     clear H
                     have H := H1
                     clear H1
                     have H' := Aside0.mk H
                     clear H
                     have p131 : 0 ≤ (x36_3 : Int) := of_decide_eq_true (by first | (with_reducible assumption) | assumption)
                     have q131 : x36_3 < (((rd_T58 (rd_L3 l0 x22_1) x29_2).f1).length : Int) := of_decide_eq_true (by first | (with_reducible assumption) | assumption)
                     obtain ⟨ad131, e131, hx131_0⟩ := Kd.at_int (Kd.C_kept_now HR129_1.out HK.out) x36_3 p131 q131
                     cases e131
                     replace p131 := eq_true p131
                     replace q131 := eq_true q131
                     obtain ⟨Ao23, co23, eo23⟩ := Kd.S_slice HO_6.out
                     subst eo23
                     have p132 : 0 ≤ ((rd ((rd_T58 (rd_L3 l0 x22_1) x29_2).f1) x36_3) : Int) := of_decide_eq_true (by first | (with_reducible assumption) | assumption)
                     have q132 : (rd ((rd_T58 (rd_L3 l0 x22_1) x29_2).f1) x36_3) < (x6_3.length : Int) := of_decide_eq_true (by first | (with_reducible assumption) | assumption)
                     obtain ⟨ad132, A132_0, c132_0, e132, hx132_0, hl132_0, hi132_0⟩ := at_L1 (Kd.S_reads' HO_6.out).2.2 (rd ((rd_T58 (rd_L3 l0 x22_1) x29_2).f1) x36_3) p132 q132
                     cases e132
                     obtain ⟨ce132, hce132, hMe132, hcc132⟩ := Kd.S_get HO_6.out [] (rd ((rd_T58 (rd_L3 l0 x22_1) x29_2).f1) x36_3) p132 (by first | exact q132 | exact of_decide_eq_true (by first | (with_reducible assumption) | assumption) | (have e_ := (Kd.S_reads' HO_6.out).1; omega))
                     obtain ⟨ve132_0, rfl, ge132_0⟩ := hMe132
                     have hv132_0 := hcc132 0 _ rfl
                     rw [Nat.add_zero, show ((Kd.slice 3 (Kd.int .i64))).sz = 1 from rfl, Nat.mul_one] at hv132_0
                     replace hv132_0 := Option.some.inj (hv132_0.symm.trans hx132_0)
                     rw [hv132_0] at ge132_0
                     have HL132_0 := Aside0.mk (show Kd.R (Kd.int .i64) 3 _ _ _ _ (rd_L1 x6_3 (rd ((rd_T58 (rd_L3 l0 x22_1) x29_2).f1) x36_3)) from ge132_0)
                     clear hv132_0 ge132_0
                     have HX132_0 := Aside0.mk hx132_0
                     clear hcc132 hce132
                     have HR132_0 := Aside0.mk hi132_0
                     have HC132_0 := Aside0.mk hl132_0
                     clear hi132_0 hl132_0
                     replace p132 := eq_true p132
                     replace q132 := eq_true q132
                     go_wp2_with (first | ((with_reducible refine gate_callee (f := 174) rfl ?_); refine goesL_ (some 45) rfl rfl Try.func174 (by kernel_rfl) rfl #[.slice A132_0 (rd_L1 x6_3 (rd ((rd_T58 (rd_L3 l0 x22_1) x29_2).f1) x36_3)).length c132_0, .int .i64 x22_1] rfl (by (try simp only [List.map_toArray, List.map_cons, List.map_nil]); first | done | rfl | (simp only [List.length_drop, List.length_take]; rfl)) ?_; (with_reducible refine (slices_Contains_int_int.calls k3 _ _ (rd_L1 x6_3 (rd ((rd_T58 (rd_L3 l0 x22_1) x29_2).f1) x36_3)) x22_1 true _ ?side1 ?side2 A21.out).mono ?_); (case side1 => repeat (first | exact (by repeat (first | (with_reducible exact HR132_0.out) | (with_reducible refine Kd.C_alloc ?_ _) | (with_reducible refine Kd.C_drewN ?_ _) | (with_reducible refine Kd.C_drew ?_) | exact HR132_0.out)) | (with_reducible refine Kd.C_alloc ?_ _) | (with_reducible refine Kd.C_drewN ?_ _) | (with_reducible refine Kd.C_drew ?_))); (case side2 => exact HC132_0.out); rintro e w' ⟨rfl, ⟨nd, rfl⟩⟩; refine ⟨_, rfl, ?_⟩))
                     go_roundg k3
                     case measure => have := HK1.out; have := HK2.out; have := HK3.out; omega
                     case rel => exact ⟨(x6_3), (wrap64 (x36_3 + 1)), (by first | rfl | (simp; done) | (simp [*]; done) | (simp [isEmpty_bne]; done)), H', ⟨by have := HK1.out; have := HK2.out; have := HK3.out; omega⟩, ⟨by (with_reducible repeat (first | apply Kd.R_alloc | apply Kd.R_drewN | apply Kd.R_drew)); exact HO_1.out⟩, ⟨by (with_reducible repeat (first | apply Kd.Q_alloc | apply Kd.Q_drewN | apply Kd.Q_drew)); exact HO_2.out⟩, ⟨by (with_reducible repeat (first | apply Kd.S_alloc | apply Kd.S_drewN | apply Kd.S_drew)); exact HO_6.out⟩, ⟨by (with_reducible repeat (first | refine blk_drewN ?_ _ | refine blk_drew ?_ | refine blk_alloc ?_ _)); exact BK130.out⟩, ⟨by repeat (first | (with_reducible first | exact HK.out | apply Kept.alloc | apply Kept.drewN | apply Kept.drew | refine Kept.setCell ?_ (.inr GW130.out) _) | exact HK.out)⟩, ⟨by repeat (first | (with_reducible first | exact HB.out | apply below_alloc | apply pw_below_drewN | apply below_drew1 | refine below_set ?_ GE130.out) | exact HB.out)⟩⟩
                    ·replace c22 := Bool.eq_false_iff.mpr c22
                     subst c22
                     have H1 : (if (rd_L1 x6_3 (rd ((rd_T58 (rd_L3 l0 x22_1) x29_2).f1) x36_3)).length < 17592186044416 then (fixpoint_propagate.l2 k3 l0 l1 l2 (x6_3.set ((rd ((rd_T58 (rd_L3 l0 x22_1) x29_2).f1) x36_3) : Int).toNat ((rd_L1 x6_3 (rd ((rd_T58 (rd_L3 l0 x22_1) x29_2).f1) x36_3)) ++ [x22_1])) x22_1 l0 (l0.length : Int) x22_1 (rd_L3 l0 x22_1) ((rd_L3 l0 x22_1).length : Int) x29_2 ((rd_T58 (rd_L3 l0 x22_1) x29_2).f1) (((rd_T58 (rd_L3 l0 x22_1) x29_2).f1).length : Int) (wrap64 (x36_3 + 1))) else (none)) = some r := by rw [if_neg (show ¬ (false = true) by decide)] at H; exact H
                     clear H
                     have H := H1
                     clear H1
                     by_cases c24 : (rd_L1 x6_3 (rd ((rd_T58 (rd_L3 l0 x22_1) x29_2).f1) x36_3)).length < 17592186044416
                     ·rw [if_pos c24] at H
                      have LMc24 := Aside0.mk c24
                      clear c24
                      obtain ⟨y135, hy135⟩ : ∃ y_ : List Int, y_ = ((rd_L1 x6_3 (rd ((rd_T58 (rd_L3 l0 x22_1) x29_2).f1) x36_3)) ++ [x22_1]) := ⟨_, rfl⟩
                      replace H : (fixpoint_propagate.l2 k3 l0 l1 l2 (x6_3.set ((rd ((rd_T58 (rd_L3 l0 x22_1) x29_2).f1) x36_3) : Int).toNat y135) x22_1 l0 (l0.length : Int) x22_1 (rd_L3 l0 x22_1) ((rd_L3 l0 x22_1).length : Int) x29_2 ((rd_T58 (rd_L3 l0 x22_1) x29_2).f1) (((rd_T58 (rd_L3 l0 x22_1) x29_2).f1).length : Int) (wrap64 (x36_3 + 1))) = some r := by first | (rw [hy135]; with_reducible exact H) | (have H2_ := (Option.bind_some _ _).symm.trans H; rw [hy135]; with_reducible exact H2_) | (have H2_ := (Option.bind_some _ _).symm.trans H; with_reducible exact H2_) | with_reducible exact H | (rw [hy135]; exact H) | exact H
                      have Ny135 := Aside0.mk hy135
                      clear hy135
                      obtain ⟨y138, hy138⟩ : ∃ y_ : List (List Int), y_ = (x6_3.set ((rd ((rd_T58 (rd_L3 l0 x22_1) x29_2).f1) x36_3) : Int).toNat y135) := ⟨_, rfl⟩
                      replace H : (fixpoint_propagate.l2 k3 l0 l1 l2 y138 x22_1 l0 (l0.length : Int) x22_1 (rd_L3 l0 x22_1) ((rd_L3 l0 x22_1).length : Int) x29_2 ((rd_T58 (rd_L3 l0 x22_1) x29_2).f1) (((rd_T58 (rd_L3 l0 x22_1) x29_2).f1).length : Int) (wrap64 (x36_3 + 1))) = some r := by first | (rw [hy138]; with_reducible exact H) | (have H2_ := (Option.bind_some _ _).symm.trans H; rw [hy138]; with_reducible exact H2_) | (have H2_ := (Option.bind_some _ _).symm.trans H; with_reducible exact H2_) | with_reducible exact H | (rw [hy138]; exact H) | exact H
                      have Ny138 := Aside0.mk hy138
                      clear hy138
                      have H' := Aside0.mk H
                      clear H
                      have p131 : 0 ≤ (x36_3 : Int) := of_decide_eq_true (by first | (with_reducible assumption) | assumption)
                      have q131 : x36_3 < (((rd_T58 (rd_L3 l0 x22_1) x29_2).f1).length : Int) := of_decide_eq_true (by first | (with_reducible assumption) | assumption)
                      obtain ⟨ad131, e131, hx131_0⟩ := Kd.at_int (Kd.C_kept_now HR129_1.out HK.out) x36_3 p131 q131
                      cases e131
                      replace p131 := eq_true p131
                      replace q131 := eq_true q131
                      obtain ⟨Ao26, co26, eo26⟩ := Kd.S_slice HO_6.out
                      subst eo26
                      have p132 : 0 ≤ ((rd ((rd_T58 (rd_L3 l0 x22_1) x29_2).f1) x36_3) : Int) := of_decide_eq_true (by first | (with_reducible assumption) | assumption)
                      have q132 : (rd ((rd_T58 (rd_L3 l0 x22_1) x29_2).f1) x36_3) < (x6_3.length : Int) := of_decide_eq_true (by first | (with_reducible assumption) | assumption)
                      obtain ⟨ad132, A132_0, c132_0, e132, hx132_0, hl132_0, hi132_0⟩ := at_L1 (Kd.S_reads' HO_6.out).2.2 (rd ((rd_T58 (rd_L3 l0 x22_1) x29_2).f1) x36_3) p132 q132
                      cases e132
                      obtain ⟨ce132, hce132, hMe132, hcc132⟩ := Kd.S_get HO_6.out [] (rd ((rd_T58 (rd_L3 l0 x22_1) x29_2).f1) x36_3) p132 (by first | exact q132 | exact of_decide_eq_true (by first | (with_reducible assumption) | assumption) | (have e_ := (Kd.S_reads' HO_6.out).1; omega))
                      obtain ⟨ve132_0, rfl, ge132_0⟩ := hMe132
                      have hv132_0 := hcc132 0 _ rfl
                      rw [Nat.add_zero, show ((Kd.slice 3 (Kd.int .i64))).sz = 1 from rfl, Nat.mul_one] at hv132_0
                      replace hv132_0 := Option.some.inj (hv132_0.symm.trans hx132_0)
                      rw [hv132_0] at ge132_0
                      have HL132_0 := Aside0.mk (show Kd.R (Kd.int .i64) 3 _ _ _ _ (rd_L1 x6_3 (rd ((rd_T58 (rd_L3 l0 x22_1) x29_2).f1) x36_3)) from ge132_0)
                      clear hv132_0 ge132_0
                      have HX132_0 := Aside0.mk hx132_0
                      clear hcc132 hce132
                      have HR132_0 := Aside0.mk hi132_0
                      have HC132_0 := Aside0.mk hl132_0
                      clear hi132_0 hl132_0
                      replace p132 := eq_true p132
                      replace q132 := eq_true q132
                      go_wp2_with (first | ((with_reducible refine gate_callee (f := 174) rfl ?_); refine goesL_ (some 45) rfl rfl Try.func174 (by kernel_rfl) rfl #[.slice A132_0 (rd_L1 x6_3 (rd ((rd_T58 (rd_L3 l0 x22_1) x29_2).f1) x36_3)).length c132_0, .int .i64 x22_1] rfl (by (try simp only [List.map_toArray, List.map_cons, List.map_nil]); first | done | rfl | (simp only [List.length_drop, List.length_take]; rfl)) ?_; (with_reducible refine (slices_Contains_int_int.calls k3 _ _ (rd_L1 x6_3 (rd ((rd_T58 (rd_L3 l0 x22_1) x29_2).f1) x36_3)) x22_1 false _ ?side1 ?side2 A21.out).mono ?_); (case side1 => repeat (first | exact (by repeat (first | (with_reducible exact HR132_0.out) | (with_reducible refine Kd.C_alloc ?_ _) | (with_reducible refine Kd.C_drewN ?_ _) | (with_reducible refine Kd.C_drew ?_) | exact HR132_0.out)) | (with_reducible refine Kd.C_alloc ?_ _) | (with_reducible refine Kd.C_drewN ?_ _) | (with_reducible refine Kd.C_drew ?_))); (case side2 => exact HC132_0.out); rintro e w' ⟨rfl, ⟨nd, rfl⟩⟩; refine ⟨_, rfl, ?_⟩; (try (rw [drewN_self wr]; generalize hq_ : World.drewN wr _ = wr; have n0_ : Aside0 (Kd.R (Kd.int .i64) 3 wr w0.heap.size (fun k_ => ((P1_ k_ ∨ P2_ k_) ∨ w.heap.size ≤ k_) ∧ some k_ ≠ (u9000_ : Value).ownBlock ∧ some k_ ≠ (u9001_ : Value).ownBlock ∧ some k_ ≠ (.slice (some ad132) x6_3.length co26 : Value).ownBlock) (.slice A132_0 (rd_L1 x6_3 (rd ((rd_T58 (rd_L3 l0 x22_1) x29_2).f1) x36_3)).length c132_0) (rd_L1 x6_3 (rd ((rd_T58 (rd_L3 l0 x22_1) x29_2).f1) x36_3))) := ⟨by rw [← hq_]; exact (by (with_reducible repeat (first | apply Kd.R_alloc | apply Kd.R_drewN | apply Kd.R_drew)); exact Kd.R_mono HL132_0.out (fun _ hk => ⟨hk.1.1, ⟨hk.1.2.1, ⟨hk.1.2.2, hk.2⟩⟩⟩))⟩; have n1_ : Aside0 (Kd.R (Kd.int .i64) 3 wr w0.heap.size (fun k_ => ((P1_ k_ ∨ P2_ k_) ∨ w.heap.size ≤ k_) ∧ some k_ ≠ (u9001_ : Value).ownBlock) u9000_ l1) := ⟨by rw [← hq_]; exact (by (with_reducible repeat (first | apply Kd.R_alloc | apply Kd.R_drewN | apply Kd.R_drew)); exact HO_1.out)⟩; have n2_ : Aside0 (Kd.Q (Kd.int .i64) 3 wr w0.heap.size (fun k_ => ((P1_ k_ ∨ P2_ k_) ∨ w.heap.size ≤ k_) ∧ some k_ ≠ (u9000_ : Value).ownBlock) u9001_ l2) := ⟨by rw [← hq_]; exact (by (with_reducible repeat (first | apply Kd.Q_alloc | apply Kd.Q_drewN | apply Kd.Q_drew)); exact HO_2.out)⟩; have n3_ : Aside0 (Kd.S (Kd.slice 3 (Kd.int .i64)) 29 wr w0.heap.size (fun k_ => ((P1_ k_ ∨ P2_ k_) ∨ w.heap.size ≤ k_) ∧ some k_ ≠ (u9000_ : Value).ownBlock ∧ some k_ ≠ (u9001_ : Value).ownBlock) (.slice (some ad132) x6_3.length co26) x6_3) := ⟨by rw [← hq_]; exact (by (with_reducible repeat (first | apply Kd.S_alloc | apply Kd.S_drewN | apply Kd.S_drew)); exact HO_6.out)⟩; have n4_ : Aside0 (wr.heap[gb130]? = some (.cells #[.int .i64 ((rd_T58 (rd_L3 l0 x22_1) x29_2).f0), .slice (some ad131) ((rd_T58 (rd_L3 l0 x22_1) x29_2).f1).length c129_1] 58 (0, 0))) := ⟨by rw [← hq_]; exact (by (with_reducible repeat (first | refine blk_drewN ?_ _ | refine blk_drew ?_ | refine blk_alloc ?_ _)); exact BK130.out)⟩; have n5_ : Aside0 (Kept w wr (fun k_ => P1_ k_ ∨ P2_ k_)) := ⟨by rw [← hq_]; exact (by repeat (first | (with_reducible first | exact HK.out | apply Kept.alloc | apply Kept.drewN | apply Kept.drew | refine Kept.setCell ?_ (.inr GW130.out) _) | exact HK.out))⟩; have n6_ : Aside0 (Below w0.heap.size w0 wr) := ⟨by rw [← hq_]; exact (by repeat (first | (with_reducible first | exact HB.out | apply below_alloc | apply pw_below_drewN | apply below_drew1 | refine below_set ?_ GE130.out) | exact HB.out))⟩; have n7_ : Aside0 (Kd.C (Kd.int .i64) wr A132_0 (rd_L1 x6_3 (rd ((rd_T58 (rd_L3 l0 x22_1) x29_2).f1) x36_3)).length (rd_L1 x6_3 (rd ((rd_T58 (rd_L3 l0 x22_1) x29_2).f1) x36_3))) := ⟨by rw [← hq_]; exact (by repeat (first | (with_reducible exact HR132_0.out) | (with_reducible refine Kd.C_alloc ?_ _) | (with_reducible refine Kd.C_drewN ?_ _) | (with_reducible refine Kd.C_drew ?_) | exact HR132_0.out))⟩; replace hx132_0 := cell_at hq_ hx132_0; clear HL132_0 HO_1 HO_2 HO_6 BK130 HK HB HR132_0 hq_; have HL132_0 := n0_; have HO_1 := n1_; have HO_2 := n2_; have HO_6 := n3_; have BK130 := n4_; have HK := n5_; have HB := n6_; have HR132_0 := n7_; clear n0_ n1_ n2_ n3_ n4_ n5_ n6_ n7_)); have p134 : 0 ≤ ((rd ((rd_T58 (rd_L3 l0 x22_1) x29_2).f1) x36_3) : Int) := of_decide_eq_true (by first | (with_reducible assumption) | assumption); have q134 : (rd ((rd_T58 (rd_L3 l0 x22_1) x29_2).f1) x36_3) < (x6_3.length : Int) := of_decide_eq_true (by first | (with_reducible assumption) | assumption); obtain ⟨ad134, A134_0, c134_0, e134, hx134_0, hl134_0, hi134_0⟩ := at_L1 (Kd.S_reads' HO_6.out).2.2 (rd ((rd_T58 (rd_L3 l0 x22_1) x29_2).f1) x36_3) p134 q134; obtain rfl : ad132 = ad134 := (by injection e134); obtain ⟨ce134, hce134, hMe134, hcc134⟩ := Kd.S_get HO_6.out [] (rd ((rd_T58 (rd_L3 l0 x22_1) x29_2).f1) x36_3) p134 (by first | exact q134 | exact of_decide_eq_true (by first | (with_reducible assumption) | assumption) | (have e_ := (Kd.S_reads' HO_6.out).1; omega)); obtain ⟨ve134_0, rfl, ge134_0⟩ := hMe134; have hv134_0 := hcc134 0 _ rfl; rw [Nat.add_zero, show ((Kd.slice 3 (Kd.int .i64))).sz = 1 from rfl, Nat.mul_one] at hv134_0; replace hv134_0 := Option.some.inj (hv134_0.symm.trans hx134_0); rw [hv134_0] at ge134_0; have HL134_0 := Aside0.mk (show Kd.R (Kd.int .i64) 3 _ _ _ _ (rd_L1 x6_3 (rd ((rd_T58 (rd_L3 l0 x22_1) x29_2).f1) x36_3)) from ge134_0); clear hv134_0 ge134_0; have HX134_0 := Aside0.mk hx134_0; clear hcc134 hce134; have HR134_0 := Aside0.mk hi134_0; have HC134_0 := Aside0.mk hl134_0; clear hi134_0 hl134_0; replace p134 := eq_true p134; replace q134 := eq_true q134; have ea_ := Option.some.inj (hx132_0.symm.trans hx134_0); injection ea_ with ea_ en_ ec_; subst ea_; subst ec_; clear en_; obtain ⟨go27, co27, eo27, gb27, gl27, cl27, HG27⟩ := Kd.S_form HO_6.out (by have h_ : ((rd ((rd_T58 (rd_L3 l0 x22_1) x29_2).f1) x36_3) : Int) < ((x6_3.length : Int) : Int) := of_decide_eq_true (by first | (with_reducible assumption) | assumption); have h2_ : 0 ≤ ((rd ((rd_T58 (rd_L3 l0 x22_1) x29_2).f1) x36_3) : Int) := (of_decide_eq_true (by first | (with_reducible assumption) | assumption)); omega); (first | cases eo27 | (injection eo27 with ea_ en_ ec_; (first | subst ea_ | (injection ea_ with ea_; subst ea_)); subst ec_; clear en_)); have GB27 := Aside0.mk gb27; have GG27 := Aside0.mk HG27; clear gb27 gl27 HG27; have HMgo27 := Aside0.mk (show ((P1_ go27 ∨ P2_ go27) ∨ w.heap.size ≤ go27) from (by first | exact (HO_6.out.1 _ rfl).1 | exact ((Kd.S_R HO_6.out).1 _ rfl).1)); (first | simp only [add_plain] at hx132_0 | skip); (first | simp only [add_plain] at hx134_0 | skip); obtain ⟨oki27, ce27, hcl27, hM27, hcc27, _, hoki27, hH27⟩ := Kd.S_elem HO_6.out [] ((rd ((rd_T58 (rd_L3 l0 x22_1) x29_2).f1) x36_3) : Int) (of_decide_eq_true (by first | (with_reducible assumption) | assumption)) (by have h_ : ((rd ((rd_T58 (rd_L3 l0 x22_1) x29_2).f1) x36_3) : Int) < ((x6_3.length : Int) : Int) := of_decide_eq_true (by first | (with_reducible assumption) | assumption); first | exact h_ | (have e_ := (Kd.S_reads' HO_6.out).1; omega) | simpa using h_); obtain ⟨ve27_0, rfl, ge27_0⟩ := hM27; have hv27 := hcc27 0 _ rfl; have hX27 := HX134_0.out; (try simp only [add_plain] at hX27); (try simp only [Nat.add_zero] at hv27); (try rw [show ((Kd.slice 3 (Kd.int .i64))).sz = 1 from rfl, Nat.mul_one] at hv27); replace hv27 := Option.some.inj (hv27.symm.trans hX27); subst hv27; clear hX27 hcc27 hcl27; have UU27 := Aside0.mk (show Kd.R (Kd.int .i64) 3 _ w0.heap.size oki27 (.slice A132_0 (rd_L1 x6_3 (rd ((rd_T58 (rd_L3 l0 x22_1) x29_2).f1) x36_3)).length c132_0) (rd_L1 x6_3 (rd ((rd_T58 (rd_L3 l0 x22_1) x29_2).f1) x36_3)) from ge27_0); have HH27 := Aside0.mk hH27; have HN27 := Aside0.mk (Kd.S_reads' HO_6.out).1; clear hH27 ge27_0) | ((with_reducible refine gate_builtin (b := .append) (xs := #[.tmp 52, .tmp 54]) rfl ?_); at_builtin; refine Kd.R_append (Kd.int .i64) (w0 := w0) w0.heap.size rfl (.tmp 52) (.tmp 54) 29 3 (.int .i64 0) 8 rfl Try.underlying29 info3 rfl (by decide) (by omega) (.slice A132_0 (rd_L1 x6_3 (rd ((rd_T58 (rd_L3 l0 x22_1) x29_2).f1) x36_3)).length c132_0) (rd_L1 x6_3 (rd ((rd_T58 (rd_L3 l0 x22_1) x29_2).f1) x36_3)) x22_1 [.int .i64 x22_1] (fun k_ => oki27 k_ ∨ ((fun k_ => ((P1_ k_ ∨ P2_ k_) ∨ w.heap.size ≤ k_) ∧ some k_ ≠ (u9000_ : Value).ownBlock ∧ some k_ ≠ (u9001_ : Value).ownBlock)) k_ ∧ wr.heap.size ≤ k_) (fun _ => False) rfl rfl ?aP (fun _ hk => hk.elim) ?aF ?aO ?aB ?aS ?aL ?_; (case aP => exact rfl); (case aB => exact (by repeat (first | (with_reducible first | exact HB.out | apply below_alloc | apply pw_below_drewN | apply below_drew1 | refine below_set ?_ GE130.out) | exact HB.out))); (case aF => exact (fun k_ hk => .inr ⟨⟨(.inr (Nat.le_trans (by first | exact HK.out.1 | exact (show Kept w _ (fun k_ => P1_ k_ ∨ P2_ k_) from by repeat (first | (with_reducible first | exact HK.out | apply Kept.alloc | apply Kept.drewN | apply Kept.drew | refine Kept.setCell ?_ (.inr GW130.out) _) | exact HK.out)).1) hk)), Kd.fresh' (Kd.R_lt (by (with_reducible repeat (first | apply Kd.R_alloc | apply Kd.R_drewN | apply Kd.R_drew)); exact HO_1.out)) k_ hk, Kd.fresh' (Kd.Q_lt (by (with_reducible repeat (first | apply Kd.Q_alloc | apply Kd.Q_drewN | apply Kd.Q_drew)); exact HO_2.out)) k_ hk⟩, hk⟩)); (case aO => exact (by (with_reducible repeat (first | apply Kd.R_alloc | apply Kd.R_drewN | apply Kd.R_drew)); exact Kd.R_mono UU27.out (fun _ hk => .inl hk))); (case aS => exact (below_size (by repeat (first | (with_reducible first | exact HB.out | apply below_alloc | apply pw_below_drewN | apply below_drew1 | refine below_set ?_ GE130.out) | exact HB.out)))); (case aL => have := LMc24.out; omega); intro v136 w28 ho hb hg hat; rw [← Ny135.out] at ho; have n0_ := Aside0.mk (Kd.R_grown2 (by (with_reducible repeat (first | apply Kd.R_alloc | apply Kd.R_drewN | apply Kd.R_drew)); exact HO_1.out) rfl hg (fun k_ e_ => (HL134_0.out.1 k_ e_).1.2.1)); have n1_ := Aside0.mk (Kd.Q_grown2 (by (with_reducible repeat (first | apply Kd.Q_alloc | apply Kd.Q_drewN | apply Kd.Q_drew)); exact HO_2.out) rfl hg (fun k_ e_ => (HL134_0.out.1 k_ e_).1.2.2)); have n2_ := Aside0.mk (blk_grown (g := gb130) (o := .cells #[.int .i64 ((rd_T58 (rd_L3 l0 x22_1) x29_2).f0), .slice (some ad131) ((rd_T58 (rd_L3 l0 x22_1) x29_2).f1).length c129_1] 58 (0, 0)) (by (with_reducible repeat (first | refine blk_drewN ?_ _ | refine blk_drew ?_ | refine blk_alloc ?_ _)); exact BK130.out) hg (Kd.R_ne HL134_0.out BK130.out (by decide))); have n3_ := Aside0.mk (hb); have n4_ := Aside0.mk (Kept.of_grown (S := (fun k_ => P1_ k_ ∨ P2_ k_)) hg (by repeat (first | (with_reducible first | exact HK.out | apply Kept.alloc | apply Kept.drewN | apply Kept.drew | refine Kept.setCell ?_ (.inr GW130.out) _) | exact HK.out)) (fun k_ e_ => (hoki27 k_ (UU27.out.1 k_ e_)).1.1)); have n5_ := Aside0.mk (Kd.H_grown (Kd.H_widen (by repeat (first | exact HH27.out | refine Kd.H_alloc ?_ _ | refine Kd.H_drewN ?_ _ | refine Kd.H_drew ?_))) hg (fun k_ e_ => .inl (UU27.out.1 k_ e_))); have n6_ := Aside0.mk (ho); clear HO_1; clear HO_2; clear BK130; clear HB; clear HK; clear HH27; clear HO_6; clear UU27; clear HL132_0; clear HL134_0; have HO_1 := n0_; have HO_2 := n1_; have BK130 := n2_; have HB := n3_; have HK := n4_; have HH27 := n5_; have HO137 := n6_; clear n0_ n1_ n2_ n3_ n4_ n5_ n6_; clear ho hb hg hat; have p25 : 0 ≤ ((rd ((rd_T58 (rd_L3 l0 x22_1) x29_2).f1) x36_3) : Int) := of_decide_eq_true (by first | (with_reducible assumption) | assumption); have q25 : ((rd ((rd_T58 (rd_L3 l0 x22_1) x29_2).f1) x36_3) : Int) < ((x6_3.length : Int) : Int) := of_decide_eq_true (by first | (with_reducible assumption) | assumption); replace p25 := eq_true p25; replace q25 := eq_true q25; obtain ⟨Ao31, co31, eo31⟩ := Kd.R_slice HO137.out; subst eo31; obtain ⟨_, _, hraw29, _, _, hcc29, _⟩ := Kd.H_raw HH27.out (of_decide_eq_true (by first | (with_reducible assumption) | assumption)) (by have h_ : ((rd ((rd_T58 (rd_L3 l0 x22_1) x29_2).f1) x36_3) : Int) < ((x6_3.length : Int) : Int) := of_decide_eq_true (by first | (with_reducible assumption) | assumption); first | exact h_ | (have e_ := (HN27.out); omega) | simpa using h_); obtain ⟨_, hfr29⟩ := Kd.H_at HH27.out (of_decide_eq_true (by first | (with_reducible assumption) | assumption)) (by have h_ : ((rd ((rd_T58 (rd_L3 l0 x22_1) x29_2).f1) x36_3) : Int) < ((x6_3.length : Int) : Int) := of_decide_eq_true (by first | (with_reducible assumption) | assumption); first | exact h_ | (have e_ := (HN27.out); omega) | simpa using h_); have hx29_0 := hcc29 0 _ rfl; have hf29_0 := hfr29 0; (try simp only [Nat.add_zero] at hx29_0 hf29_0); (try rw [show ((Kd.slice 3 (Kd.int .i64))).sz = 1 from rfl, Nat.mul_one] at hx29_0); (try rw [show ((Kd.slice 3 (Kd.int .i64))).sz = 1 from rfl, Nat.mul_one] at hf29_0); have HP29 := Kd.S_seg0 HH27.out (of_decide_eq_true (by first | (with_reducible assumption) | assumption)) (by have h_ : ((rd ((rd_T58 (rd_L3 l0 x22_1) x29_2).f1) x36_3) : Int) < ((x6_3.length : Int) : Int) := of_decide_eq_true (by first | (with_reducible assumption) | assumption); first | exact h_ | (have e_ := (HN27.out); omega) | simpa using h_) (seg := [.slice Ao31 y135.length co31]) (j := 0) (show 1 ≤ 1 from by decide) (x' := y135) (Kd.M_row HO137.out) (fun _ hk => hk); (try simp only [show ((Kd.slice 3 (Kd.int .i64))).sz = 1 from rfl, Nat.mul_one, Nat.add_zero] at HP29); clear hcc29 hfr29) | ((with_reducible refine gate_store (t := 29) (p := 56) rfl ?_); refine store_event (t := 29) (p := 56) (v := ?vo_w30) (w1 := (w28.setCell ⟨go27, ((rd ((rd_T58 (rd_L3 l0 x22_1) x29_2).f1) x36_3) : Int).toNat, none⟩ (.slice Ao31 y135.length co31))) ?hg ?ho ?hn ?hr ?_; (case ho => rfl); (case hg => rfl); (case hn => rfl); (case hr => first | (go_simp; done) | (go_simp; rfl)); intro w30 hw; have hg : w28.grownBy w30 (some go27) := (by rw [hw]; exact HP29.2); have hp_ : Kd.S (Kd.slice 3 (Kd.int .i64)) 29 w30 w0.heap.size (fun k_ => ((P1_ k_ ∨ P2_ k_) ∨ w.heap.size ≤ k_) ∧ some k_ ≠ (u9000_ : Value).ownBlock ∧ some k_ ≠ (u9001_ : Value).ownBlock) (.slice (some ⟨go27, 0, none⟩) x6_3.length co26) y138 := (by rw [hw, Ny138.out]; exact HP29.1); clear HP29; have n0_ := Aside0.mk (Kd.R_over' (v := (.slice (some ⟨go27, 0, none⟩) x6_3.length co26)) (by (with_reducible repeat (first | apply Kd.R_alloc | apply Kd.R_drewN | apply Kd.R_drew)); exact HO_1.out) (Kd.R_typed hraw29) (by decide) hg); have n1_ := Aside0.mk (Kd.Q_over' (v := (.slice (some ⟨go27, 0, none⟩) x6_3.length co26)) (by (with_reducible repeat (first | apply Kd.Q_alloc | apply Kd.Q_drewN | apply Kd.Q_drew)); exact HO_2.out) (Kd.R_typed hraw29) (by decide) hg); have n2_ := Aside0.mk (blk_grown (g := gb130) (o := .cells #[.int .i64 ((rd_T58 (rd_L3 l0 x22_1) x29_2).f0), .slice (some ad131) ((rd_T58 (rd_L3 l0 x22_1) x29_2).f1).length c129_1] 58 (0, 0)) (by (with_reducible repeat (first | refine blk_drewN ?_ _ | refine blk_drew ?_ | refine blk_alloc ?_ _)); exact BK130.out) hg (Kd.R_ne hraw29 BK130.out (by decide))); have n3_ := Aside0.mk ((by rw [hw]; exact below_set HB.out GB27.out : Below w0.heap.size w0 w30)); have n4_ := Aside0.mk (Kept.of_grown (S := (fun k_ => P1_ k_ ∨ P2_ k_)) hg (by repeat (first | (with_reducible first | exact HK.out | apply Kept.alloc | apply Kept.drewN | apply Kept.drew | refine Kept.setCell ?_ (.inr GW130.out) _) | exact HK.out)) (fun k_ e_ => by cases e_; exact HMgo27.out)); have n5_ := Aside0.mk (hp_); clear HO_1; clear HO_2; clear BK130; clear HB; clear HK; clear HO137; clear HH27; have HO_1 := n0_; have HO_2 := n1_; have BK130 := n2_; have HB := n3_; have HK := n4_; have HO_6 := n5_; clear n0_ n1_ n2_ n3_ n4_ n5_; clear hg hw hp_ hraw29))
                      go_roundg k3
                      case measure => have := HK1.out; have := HK2.out; have := HK3.out; omega
                      case rel => exact ⟨(y138), (wrap64 (x36_3 + 1)), (by first | rfl | (simp; done) | (simp [*]; done) | (simp [isEmpty_bne]; done)), H', ⟨by have := HK1.out; have := HK2.out; have := HK3.out; omega⟩, ⟨by (with_reducible repeat (first | apply Kd.R_alloc | apply Kd.R_drewN | apply Kd.R_drew)); exact HO_1.out⟩, ⟨by (with_reducible repeat (first | apply Kd.Q_alloc | apply Kd.Q_drewN | apply Kd.Q_drew)); exact HO_2.out⟩, ⟨by (with_reducible repeat (first | apply Kd.S_alloc | apply Kd.S_drewN | apply Kd.S_drew)); exact HO_6.out⟩, ⟨by (with_reducible repeat (first | refine blk_drewN ?_ _ | refine blk_drew ?_ | refine blk_alloc ?_ _)); exact BK130.out⟩, ⟨by repeat (first | (with_reducible first | exact HK.out | apply Kept.alloc | apply Kept.drewN | apply Kept.drew | refine Kept.setCell ?_ (.inr GW130.out) _) | exact HK.out)⟩, ⟨by repeat (first | (with_reducible first | exact HB.out | apply below_alloc | apply pw_below_drewN | apply below_drew1 | refine below_set ?_ GE130.out) | exact HB.out)⟩⟩
                     ·rw [if_neg c24] at H
                      exact absurd H (by simp)
                   ·rw [if_neg c20] at H
                    exact absurd H (by simp)
                  ·rw [if_neg c19] at H
                   exact absurd H (by simp)
                 ·rw [if_neg c18] at H
                  exact absurd H (by simp)
                ·rw [if_neg c17] at H
                 exact absurd H (by simp)
               ·rw [if_neg c16] at H
                have c16b0 : decide (x36_3 < (((rd_T58 (rd_L3 l0 x22_1) x29_2).f1).length : Int)) = false := decide_eq_false c16
                clear c16
                have H' := Aside0.mk H
                clear H
                go_wp2
                go_roundg k3
                case measure => have := HK1.out; have := HK2.out; have := HK3.out; omega
                case rel => exact ⟨(x6_3), (wrap64 (x29_2 + 1)), (by first | rfl | (simp; done) | (simp [*]; done) | (simp [isEmpty_bne]; done)), H', ⟨by have := HK1.out; have := HK2.out; have := HK3.out; omega⟩, ⟨by (with_reducible repeat (first | apply Kd.R_alloc | apply Kd.R_drewN | apply Kd.R_drew)); exact HO_1.out⟩, ⟨by (with_reducible repeat (first | apply Kd.Q_alloc | apply Kd.Q_drewN | apply Kd.Q_drew)); exact HO_2.out⟩, ⟨by (with_reducible repeat (first | apply Kd.S_alloc | apply Kd.S_drewN | apply Kd.S_drew)); exact HO_6.out⟩, ⟨by repeat (first | (with_reducible first | exact HK.out | apply Kept.alloc | apply Kept.drewN | apply Kept.drew | refine Kept.setCell ?_ (.inr GW130.out) _) | exact HK.out)⟩, ⟨by repeat (first | (with_reducible first | exact HB.out | apply below_alloc | apply pw_below_drewN | apply below_drew1 | refine below_set ?_ GE130.out) | exact HB.out)⟩⟩
            ·rw [if_neg c13] at H
             exact absurd H (by simp)
           ·rw [if_neg c12] at H
            exact absurd H (by simp)
          ·rw [if_neg c11] at H
           have c11b0 : decide (x29_2 < ((rd_L3 l0 x22_1).length : Int)) = false := decide_eq_false c11
           clear c11
           have H' := Aside0.mk H
           clear H
           go_wp2
           go_roundg k2
           case measure => have := HK1.out; have := HK2.out; omega
           case rel => exact ⟨(x6_2), (wrap64 (x22_1 + 1)), (by first | rfl | (simp; done) | (simp [*]; done) | (simp [isEmpty_bne]; done)), H', ⟨by have := HK1.out; have := HK2.out; omega⟩, ⟨by (with_reducible repeat (first | apply Kd.R_alloc | apply Kd.R_drewN | apply Kd.R_drew)); exact HO_1.out⟩, ⟨by (with_reducible repeat (first | apply Kd.Q_alloc | apply Kd.Q_drewN | apply Kd.Q_drew)); exact HO_2.out⟩, ⟨by (with_reducible repeat (first | apply Kd.S_alloc | apply Kd.S_drewN | apply Kd.S_drew)); exact HO_6.out⟩, ⟨by repeat (first | (with_reducible first | exact HK.out | apply Kept.alloc | apply Kept.drewN | apply Kept.drew) | exact HK.out)⟩, ⟨by repeat (first | (with_reducible first | exact HB.out | apply below_alloc | apply pw_below_drewN | apply below_drew1) | exact HB.out)⟩⟩
       ·rw [if_neg c10] at H
        exact absurd H (by simp)
      ·rw [if_neg c9] at H
       exact absurd H (by simp)
     ·rw [if_neg c8] at H
      have c8b0 : decide (x22_1 < (l0.length : Int)) = false := decide_eq_false c8
      clear c8
      have H' := Aside0.mk H
      clear H
      go_wp2
      go_loopg [2] k1 (fun kq v2 w' => ∃ (x1_2 : List Int) (x2_2 : List Int), Aside0 (fixpoint_propagate.l3 kq l0 x1_2 x2_2 x6_1 = some r) ∧ Aside0 (kq ≤ k1) ∧ Aside0 (Kd.R (Kd.int .i64) 3 w' w0.heap.size (fun k_ => ((P1_ k_ ∨ P2_ k_) ∨ w.heap.size ≤ k_) ∧ some k_ ≠ (v2 : Value).ownBlock) u9000_ x1_2) ∧ Aside0 (Kd.Q (Kd.int .i64) 3 w' w0.heap.size (fun k_ => ((P1_ k_ ∨ P2_ k_) ∨ w.heap.size ≤ k_) ∧ some k_ ≠ (u9000_ : Value).ownBlock) v2 x2_2) ∧ Aside0 (Kd.S (Kd.slice 3 (Kd.int .i64)) 29 w' w0.heap.size (fun k_ => ((P1_ k_ ∨ P2_ k_) ∨ w.heap.size ≤ k_) ∧ some k_ ≠ (u9000_ : Value).ownBlock ∧ some k_ ≠ (v2 : Value).ownBlock) v126 x6_1) ∧ Aside0 (Kept w w' (fun k_ => P1_ k_ ∨ P2_ k_)) ∧ Aside0 (Below w0.heap.size w0 w'))
      case atStart => exact ⟨(l1), (l2), H', ⟨Nat.le_refl _⟩, ⟨by (with_reducible repeat (first | apply Kd.R_alloc | apply Kd.R_drewN | apply Kd.R_drew)); exact HO_1.out⟩, ⟨by (with_reducible repeat (first | apply Kd.Q_alloc | apply Kd.Q_drewN | apply Kd.Q_drew)); exact HO_2.out⟩, ⟨by (with_reducible repeat (first | apply Kd.S_alloc | apply Kd.S_drewN | apply Kd.S_drew)); exact HO_6.out⟩, ⟨by repeat (first | (with_reducible first | exact HK.out | apply Kept.alloc | apply Kept.drewN | apply Kept.drew) | exact HK.out)⟩, ⟨by repeat (first | (with_reducible first | exact HB.out | apply below_alloc | apply pw_below_drewN | apply below_drew1) | exact HB.out)⟩⟩
      case round =>
       clear H'
       try clear c1
       try clear p1
       try clear q1
       try clear hx1
       try clear c2
       try clear p2
       try clear q2
       try clear hx2
       try clear c4
       try clear c4b0
       try clear c4b1
       try clear c5
       try clear c5b0
       try clear c5b1
       try clear p6
       try clear c8
       try clear c8b0
       try clear c9
       try clear c9b0
       try clear c10
       try clear c10b0
       try clear c11
       try clear c11b0
       try clear c12
       try clear c12b0
       try clear p12
       try clear q12
       try clear hx12
       try clear c13
       try clear c13b0
       try clear p13
       try clear q13
       try clear hx13
       try clear c16
       try clear c16b0
       try clear c17
       try clear c17b0
       try clear c18
       try clear c18b0
       try clear c19
       try clear c19b0
       try clear c20
       try clear c20b0
       try clear c22
       try clear c24
       try clear p25
       try clear q25
       try clear c27
       try clear c29
       try clear hx29
       try clear hf29
       try clear hcz15_0
       try clear hcz15_1
       try clear hfz15_0
       try clear hfz15_1
       try clear hx128_0
       try clear hx129_0
       try clear hx129_1
       try clear hx131_0
       try clear hx132_0
       try clear hx134_0
       try clear hx29_0
       try clear p1
       try clear p12
       try clear p128
       try clear p129
       try clear p131
       try clear p132
       try clear p134
       try clear p2
       try clear p25
       try clear q1
       try clear q12
       try clear q128
       try clear q129
       try clear q131
       try clear q132
       try clear q134
       try clear q25
       obtain ⟨x1_2, x2_2, HA, HK2, HO_1, HO_2, HO_6, HK, HB⟩ := hrel
       cases gk with
       | zero => exact absurd HA.out (by simp [fixpoint_propagate.l3])
       | succ k2 =>
        have H := HA.out
        clear HA
        simp only [fixpoint_propagate.l3] at H
        by_cases c32 : (x2_2.length : Int) > 0
        ·rw [if_pos c32] at H
         have c32b0 : decide (0 < (x2_2.length : Int)) = true := decide_eq_true c32
         have c32b1 : decide (0 < x2_2.length) = true := decide_eq_true (by omega)
         clear c32
         by_cases c33 : 0 < (x2_2.length : Int)
         ·rw [if_pos c33] at H
          have c33b0 : decide (0 < (x2_2.length : Int)) = true := decide_eq_true c33
          have c33b1 : decide (0 < x2_2.length) = true := decide_eq_true (by omega)
          clear c33
          by_cases c34 : 1 ≤ (x2_2.length : Int)
          ·rw [if_pos c34] at H
           have c34b0 := eq_true c34
           have c34b1 : decide (1 ≤ (x2_2.length : Int)) = true := decide_eq_true c34
           clear c34
           obtain ⟨y140, hy140⟩ : ∃ y_ : List Int, y_ = (x2_2.drop (1 : Int).toNat) := ⟨_, rfl⟩
           replace H : (if 0 ≤ (rd x2_2 0) then (if (rd x2_2 0) < (x1_2.length : Int) then (if (rd x2_2 0) < (l0.length : Int) then ((fixpoint_deriveAll.f k2 (rd_L3 l0 (rd x2_2 0)) x1_2).bind fun t145 => (if (Go.bits .or .i64 (rd x1_2 (rd x2_2 0)) t145) = (rd x1_2 (rd x2_2 0)) then (fixpoint_propagate.l3 k2 l0 x1_2 y140 x6_1) else (if (rd x2_2 0) < (x6_1.length : Int) then (fixpoint_propagate.l4 k2 l0 (x1_2.set ((rd x2_2 0) : Int).toNat (Go.bits .or .i64 (rd x1_2 (rd x2_2 0)) t145)) y140 x6_1 (rd_L1 x6_1 (rd x2_2 0)) ((rd_L1 x6_1 (rd x2_2 0)).length : Int) 0) else (none)))) else (none)) else (none)) else (none)) = some r := by first | (rw [hy140]; with_reducible exact H) | (have H2_ := (Option.bind_some _ _).symm.trans H; rw [hy140]; with_reducible exact H2_) | (have H2_ := (Option.bind_some _ _).symm.trans H; with_reducible exact H2_) | with_reducible exact H | (rw [hy140]; exact H) | exact H
           have Ny140 := Aside0.mk hy140
           clear hy140
           by_cases c35 : 0 ≤ (rd x2_2 0)
           ·rw [if_pos c35] at H
            have c35b0 : decide (0 ≤ (rd x2_2 0)) = true := decide_eq_true c35
            clear c35
            by_cases c36 : (rd x2_2 0) < (x1_2.length : Int)
            ·rw [if_pos c36] at H
             have c36b0 : decide ((rd x2_2 0) < (x1_2.length : Int)) = true := decide_eq_true c36
             clear c36
             by_cases c37 : (rd x2_2 0) < (l0.length : Int)
             ·rw [if_pos c37] at H
              have c37b0 : decide ((rd x2_2 0) < (l0.length : Int)) = true := decide_eq_true c37
              clear c37
              replace H := Option.bind_eq_some_iff.mp H
              obtain ⟨t145, A380, H⟩ := H
              replace H : (if (Go.bits .or .i64 (rd x1_2 (rd x2_2 0)) t145) = (rd x1_2 (rd x2_2 0)) then (fixpoint_propagate.l3 k2 l0 x1_2 y140 x6_1) else (if (rd x2_2 0) < (x6_1.length : Int) then (fixpoint_propagate.l4 k2 l0 (x1_2.set ((rd x2_2 0) : Int).toNat (Go.bits .or .i64 (rd x1_2 (rd x2_2 0)) t145)) y140 x6_1 (rd_L1 x6_1 (rd x2_2 0)) ((rd_L1 x6_1 (rd x2_2 0)).length : Int) 0) else (none))) = some r := H
              have A38 := Aside0.mk A380
              clear A380
              by_cases c39 : (Go.bits .or .i64 (rd x1_2 (rd x2_2 0)) t145) = (rd x1_2 (rd x2_2 0))
              ·rw [if_pos c39] at H
               have c39b0 : ((Go.bits .or .i64 (rd x1_2 (rd x2_2 0)) t145) == (rd x1_2 (rd x2_2 0))) = true := beq_iff_eq.mpr c39
               have c39b1 : ((Go.bits .or .i64 (rd x1_2 (rd x2_2 0)) t145) != (rd x1_2 (rd x2_2 0))) = false := bne_eq_false_iff_eq.mpr c39
               clear c39
               have H' := Aside0.mk H
               clear H
               obtain ⟨Ao40, co40, eo40, _⟩ := Kd.Q_slice HO_2.out
               subst eo40
               have p139 : 0 ≤ (0 : Int) := (by omega)
               have q139 : 0 < (x2_2.length : Int) := of_decide_eq_true (by first | (with_reducible assumption) | assumption)
               obtain ⟨ad139, e139, hx139_0⟩ := Kd.at_int (Kd.Q_reads' HO_2.out).2.2 0 p139 q139
               cases e139
               have qi139 : (0 < x2_2.length) = True := eq_true (by omega)
               (try rw [show ((0 : Int)).toNat = 0 from rfl] at hx139_0)
               (try rw [Addr.add_zero'] at hx139_0)
               replace p139 := eq_true p139
               replace q139 := eq_true q139
               have q41 : (1 : Int) ≤ ((x2_2.length : Int) : Int) := of_decide_eq_true (by first | (with_reducible assumption) | assumption)
               obtain ⟨i041, hi041, _, hsz41, _⟩ := info_parts info3
               have hcut41 := cut_from (P := Try.prog) 29 3 .i64 Try.underlying29 hi041 1 hsz41 (some ad139) x2_2.length co40 1 (by omega) q41
               have hr41 := Kd.Q_drop (k := (1 : Int).toNat) HO_2.out (by omega)
               obtain ⟨A41, hA41⟩ : ∃ A1, A1 = (if co40 = (1 : Int).toNat then (some ad139) else ((some ad139) : Option Addr).map (·.add ((1 : Int).toNat * 1))) := ⟨_, rfl⟩
               obtain ⟨c41, hc41⟩ : ∃ c1, c1 = co40 - (1 : Int).toNat := ⟨_, rfl⟩
               have hy41 : y140.length = x2_2.length - (1 : Int).toNat := (by rw [Ny140.out, List.length_drop])
               rw [← Ny140.out] at hr41
               rw [← hy41, ← hA41, ← hc41] at hcut41
               replace hr41 : Kd.Q (Kd.int .i64) 3 wr w0.heap.size (fun k_ => ((P1_ k_ ∨ P2_ k_) ∨ w.heap.size ≤ k_) ∧ some k_ ≠ (u9000_ : Value).ownBlock) (.slice A41 y140.length c41) y140 := (by rw [hA41, hc41, hy41]; exact hr41)
               have HE41 : Aside0 ((Value.slice A41 y140.length c41).ownBlock = (.slice (some ad139) x2_2.length co40 : Value).ownBlock) := ⟨by rw [hA41]; split <;> (cases ((some ad139) : Option Addr) <;> rfl)⟩
               clear hy41 hi041 hsz41 HO_2 hA41 hc41
               have HO142 := Aside0.mk hr41
               clear hr41
               replace q41 := eq_true q41
               have n_ := Aside0.mk (Kd.R_mono (ok' := fun k_ => ((((P1_ k_ ∨ P2_ k_) ∨ w.heap.size ≤ k_)) ∧ some k_ ≠ (.slice A41 y140.length c41 : Value).ownBlock)) HO_1.out (fun k_ hk => ⟨hk.1, (by rw [HE41.out]; exact hk.2)⟩))
               clear HO_1
               have HO_1 := n_
               clear n_
               have n_ := Aside0.mk (Kd.S_mono (ok' := fun k_ => ((((P1_ k_ ∨ P2_ k_) ∨ w.heap.size ≤ k_)) ∧ (some k_ ≠ (u9000_ : Value).ownBlock ∧ some k_ ≠ (.slice A41 y140.length c41 : Value).ownBlock))) HO_6.out (fun k_ hk => ⟨hk.1, ⟨hk.2.1, (by rw [HE41.out]; exact hk.2.2)⟩⟩))
               clear HO_6
               have HO_6 := n_
               clear n_
               try go_wp2
               have n0_ := Aside0.mk (Kd.R_drew HO_1.out)
               have n1_ := Aside0.mk (Kd.Q_drew HO142.out)
               have n2_ := Aside0.mk (Kd.S_drew HO_6.out)
               have n3_ := Aside0.mk (Kept.drew HK.out)
               have n4_ := Aside0.mk (below_drew1 HB.out)
               clear HO_1
               clear HO142
               clear HO_6
               clear HK
               clear HB
               have HO_1 := n0_
               have HO142 := n1_
               have HO_6 := n2_
               have HK := n3_
               have HB := n4_
               clear n0_ n1_ n2_ n3_ n4_
               obtain ⟨Ao43, co43, eo43⟩ := Kd.R_slice HO_1.out
               (first | subst eo43 | (injection eo43 with f1_ f2_ f3_; have f4_ := f1_.symm; have f5_ := f3_.symm; clear f1_ f2_ f3_; subst f4_; subst f5_))
               have p143 : 0 ≤ ((rd x2_2 0) : Int) := of_decide_eq_true (by first | (with_reducible assumption) | assumption)
               have q143 : (rd x2_2 0) < (x1_2.length : Int) := of_decide_eq_true (by first | (with_reducible assumption) | assumption)
               obtain ⟨ad143, e143, hx143_0⟩ := Kd.at_int (Kd.R_reads' HO_1.out).2.2 (rd x2_2 0) p143 q143
               cases e143
               replace p143 := eq_true p143
               replace q143 := eq_true q143
               have p144 : 0 ≤ ((rd x2_2 0) : Int) := of_decide_eq_true (by first | (with_reducible assumption) | assumption)
               have q144 : (rd x2_2 0) < (l0.length : Int) := of_decide_eq_true (by first | (with_reducible assumption) | assumption)
               obtain ⟨ad144, A144_0, c144_0, e144, hx144_0, hl144_0, hi144_0⟩ := atk_L3 HR0.out (HK.out) (rd x2_2 0) p144 q144
               have hw144_0 := hx144_0
               cases e144
               have HR144_0 := Aside0.mk hi144_0
               have HC144_0 := Aside0.mk hl144_0
               clear hi144_0 hl144_0
               replace p144 := eq_true p144
               replace q144 := eq_true q144
               refine start_ (n := 12) (S := fun w' => w'.cell? (ad143.add ((rd x2_2 0)).toNat) = some (.int .i64 (rd x1_2 (rd x2_2 0))) ∧ w'.cell? (ad144.add ((rd x2_2 0)).toNat) = some (.slice A144_0 (rd_L3 l0 (rd x2_2 0)).length c144_0)) (ds := []) #[false, false, false, false, false, false, false, false, false, false, false, false] (by kernel_rfl) rfl rfl ⟨hx143_0, hx144_0⟩ (fun hHeld => ?_); refine with_tabW fixpoint_propagate.tab18 fixpoint_propagate.bits18 (fun HT_ HW_ => ?_)
               generalize wr.drew = w42 at HO_1 HO142 HO_6 HK HB HR144_0 hx143_0 hx144_0 hHeld ⊢
               refine pure_ (i := 0) (N := some 68) (v := ?_) (a' := ?_) #[true, false, false, false, false, false, false, false, false, false, false, false] rfl rfl (any_of HT_.out (by kernel_rfl)) (fun _ _ _ h => h) (Or.inl ⟨by rfl, ?_⟩) ?_ ?_
               rotate_left
               ·intro w'
                go_simp
                with_reducible rfl
               rotate_left
               ·simp only [Act.put, List.setIfInBounds_toArray, List.set_cons_zero, List.set_cons_succ, i64_w, i32_w]
                rfl
               refine pure_ (i := 1) (N := some 69) (v := ?_) (a' := ?_) #[true, true, false, false, false, false, false, false, false, false, false, false] rfl rfl (any_of HT_.out (by kernel_rfl)) (fun _ _ _ h => h) (Or.inl ⟨by rfl, ?_⟩) ?_ ?_
               rotate_left
               ·intro w'
                go_simp
                with_reducible rfl
               rotate_left
               ·simp only [Act.put, List.setIfInBounds_toArray, List.set_cons_zero, List.set_cons_succ, i64_w, i32_w]
                rfl
               refine pure_ (i := 2) (N := some 70) (v := ?_) (a' := ?_) #[true, true, true, false, false, false, false, false, false, false, false, false] rfl rfl (any_of HT_.out (by kernel_rfl)) (fun _ _ _ h => h) (Or.inl ⟨by rfl, ?_⟩) ?_ ?_
               rotate_left
               ·intro w'
                go_simp
                with_reducible rfl
               rotate_left
               ·simp only [Act.put, List.setIfInBounds_toArray, List.set_cons_zero, List.set_cons_succ, i64_w, i32_w]
                rfl
               refine pure_ (i := 4) (N := some 72) (v := ?_) (a' := ?_) #[true, true, true, false, true, false, false, false, false, false, false, false] rfl rfl (any_of HT_.out (by kernel_rfl)) (fun _ _ _ h => h) (Or.inl ⟨by rfl, ?_⟩) ?_ ?_
               rotate_left
               ·intro w'
                go_simp
                with_reducible rfl
               rotate_left
               ·simp only [Act.put, List.setIfInBounds_toArray, List.set_cons_zero, List.set_cons_succ, i64_w, i32_w]
                rfl
               refine pure_ (i := 5) (N := some 73) (v := ?_) (a' := ?_) #[true, true, true, false, true, true, false, false, false, false, false, false] rfl rfl (any_of HT_.out (by kernel_rfl)) (fun _ _ _ h => h) (Or.inl ⟨by rfl, ?_⟩) ?_ ?_
               rotate_left
               ·intro w'
                go_simp
                with_reducible rfl
               rotate_left
               ·simp only [Act.put, List.setIfInBounds_toArray, List.set_cons_zero, List.set_cons_succ, i64_w, i32_w]
                rfl
               refine pure_ (i := 6) (N := some 74) (v := ?_) (a' := ?_) #[true, true, true, false, true, true, true, false, false, false, false, false] rfl rfl (any_of HT_.out (by kernel_rfl)) (fun _ _ _ h => h) (Or.inl ⟨by rfl, ?_⟩) ?_ ?_
               rotate_left
               ·intro w'
                go_simp
                with_reducible rfl
               rotate_left
               ·simp only [Act.put, List.setIfInBounds_toArray, List.set_cons_zero, List.set_cons_succ, i64_w, i32_w]
                rfl
               refine pure_ (i := 8) (N := some 76) (v := ?_) (a' := ?_) #[true, true, true, false, true, true, true, false, true, false, false, false] rfl rfl (any_of HT_.out (by kernel_rfl)) (fun _ _ _ h => h) (Or.inl ⟨by rfl, ?_⟩) ?_ ?_
               rotate_left
               ·intro w'
                go_simp
                with_reducible rfl
               rotate_left
               ·simp only [Act.put, List.setIfInBounds_toArray, List.set_cons_zero, List.set_cons_succ, i64_w, i32_w]
                rfl
               refine take_ (i := 3) (N := some 71) (v := ?_) (a' := ?_) #[true, true, true, true, true, true, true, false, true, false, false, false] rfl rfl (take_ofW HT_.out HW_.out (by kernel_rfl)) (fun _ _ _ h => h) (Or.inl ⟨by rfl, ?_⟩) hHeld ?_ ?_
               rotate_left
               ·rintro w' ⟨s0, s1⟩
                go_simp
                with_reducible rfl
               rotate_left
               ·simp only [Act.put, List.setIfInBounds_toArray, List.set_cons_zero, List.set_cons_succ, i64_w, i32_w]
                rfl
               refine take_ (i := 7) (N := some 75) (v := ?_) (a' := ?_) #[true, true, true, true, true, true, true, true, true, false, false, false] rfl rfl (take_ofW HT_.out HW_.out (by kernel_rfl)) (fun _ _ _ h => h) (Or.inl ⟨by rfl, ?_⟩) hHeld ?_ ?_
               rotate_left
               ·rintro w' ⟨s0, s1⟩
                go_simp
                with_reducible rfl
               rotate_left
               ·simp only [Act.put, List.setIfInBounds_toArray, List.set_cons_zero, List.set_cons_succ, i64_w, i32_w]
                rfl
               refine one_ (i := 9) (N := some 77) #[true, true, true, true, true, true, true, true, true, true, false, false] rfl rfl (one_of HT_.out (by kernel_rfl)) (by decide) (fun K hK => ?_)
               refine goes_ Try.func168 (by kernel_rfl) rfl #[.slice A144_0 (rd_L3 l0 (rd x2_2 0)).length c144_0, .slice (some ad143) x1_2.length co43] (by rfl) rfl rfl (by (try simp only [List.map_toArray, List.map_cons, List.map_nil]); first | done | rfl | (simp only [List.length_drop, List.length_take]; rfl)) ?_
               with_reducible refine (fixpoint_deriveAll.calls k2 _ _ (rd_L3 l0 (rd x2_2 0)) _ _ x1_2 t145 _ ?side1 ?side2 ?side3 ?side4 A38.out).mono ?_
               (case side1 => exact Kd.C_kept_now HR144_0.out (by repeat (first | (with_reducible first | exact HK.out | apply Kept.alloc | apply Kept.drewN | apply Kept.drew) | exact HK.out)))
               (case side2 => exact HC144_0.out)
               (case side3 => repeat (first | exact (Kd.R_reads' HO_1.out).2.2 | (with_reducible refine Kd.C_alloc ?_ _) | (with_reducible refine Kd.C_drewN ?_ _) | (with_reducible refine Kd.C_drew ?_)))
               (case side4 => exact (Kd.R_reads' HO_1.out).2.1)
               rintro e w44 ⟨rfl, hb⟩
               have HS0_ := (hb.cell (World.block_lt_of_cell? _ _ (hHeld.1))).trans (hHeld.1)
               have HS1_ := (hb.cell (World.block_lt_of_cell? _ _ (hHeld.2))).trans (hHeld.2)
               refine ⟨_, rfl, ?_⟩
               have n0_ := Aside0.mk (Kd.R_below (by (with_reducible repeat (first | apply Kd.R_alloc | apply Kd.R_drewN | apply Kd.R_drew)); exact HO_1.out) hb)
               have n1_ := Aside0.mk (Kd.Q_below (by (with_reducible repeat (first | apply Kd.Q_alloc | apply Kd.Q_drewN | apply Kd.Q_drew)); exact HO142.out) hb)
               have n2_ := Aside0.mk (Kd.S_below (by (with_reducible repeat (first | apply Kd.S_alloc | apply Kd.S_drewN | apply Kd.S_drew)); exact HO_6.out) hb)
               have n3_ := Aside0.mk (Kept.below (S := (fun k_ => P1_ k_ ∨ P2_ k_)) (by repeat (first | (with_reducible first | exact HK.out | apply Kept.alloc | apply Kept.drewN | apply Kept.drew) | exact HK.out)) hb)
               have n4_ := Aside0.mk (below_step (by repeat (first | (with_reducible first | exact HB.out | apply below_alloc | apply pw_below_drewN | apply below_drew1) | exact HB.out)) hb)
               clear HO_1
               clear HO142
               clear HO_6
               clear HK
               clear HB
               have HO_1 := n0_
               have HO142 := n1_
               have HO_6 := n2_
               have HK := n3_
               have HB := n4_
               clear n0_ n1_ n2_ n3_ n4_
               (try clear hb)
               (try clear hb2)
               (try clear hk)
               (try clear hi)
               refine hK.out _ _ ⟨HS0_, HS1_⟩ (fun hHeld => ?_)
               clear hK K
               refine norm_ (a' := ?_) ?_ ?_
               rotate_left
               ·show Act.put _ (some 77) _ = _
                simp only [Act.put, List.setIfInBounds_toArray, List.set_cons_zero, List.set_cons_succ, i64_w, i32_w]
                rfl
               refine pure_ (i := 10) (N := some 78) (v := ?_) (a' := ?_) #[true, true, true, true, true, true, true, true, true, true, true, false] rfl rfl (any_of HT_.out (by kernel_rfl)) (fun _ _ _ h => h) (Or.inl ⟨by rfl, ?_⟩) ?_ ?_
               rotate_left
               ·intro w'
                go_simp
                with_reducible rfl
               rotate_left
               ·simp only [Act.put, List.setIfInBounds_toArray, List.set_cons_zero, List.set_cons_succ, i64_w, i32_w]
                rfl
               refine pure_ (i := 11) (N := some 14) (v := ?_) (a' := ?_) #[true, true, true, true, true, true, true, true, true, true, true, true] rfl rfl (any_of HT_.out (by kernel_rfl)) (fun _ _ _ h => h) (Or.inl ⟨by rfl, ?_⟩) ?_ ?_
               rotate_left
               ·intro w'
                go_simp
                with_reducible rfl
               rotate_left
               ·simp only [Act.put, List.setIfInBounds_toArray, List.set_cons_zero, List.set_cons_succ, i64_w, i32_w]
                rfl
               refine done_ (done_of HT_.out (by kernel_rfl)) ?_
               have p146 : 0 ≤ ((rd x2_2 0) : Int) := of_decide_eq_true (by first | (with_reducible assumption) | assumption)
               have q146 : (rd x2_2 0) < (x1_2.length : Int) := of_decide_eq_true (by first | (with_reducible assumption) | assumption)
               obtain ⟨ad146, e146, hx146_0⟩ := Kd.at_int (Kd.R_reads' HO_1.out).2.2 (rd x2_2 0) p146 q146
               obtain rfl : ad143 = ad146 := (by injection e146)
               replace p146 := eq_true p146
               replace q146 := eq_true q146
               try go_wp2
               go_roundg k2
               case measure => have := HK1.out; have := HK2.out; omega
               case rel => exact ⟨(x1_2), (y140), H', ⟨by have := HK1.out; have := HK2.out; omega⟩, ⟨by (with_reducible repeat (first | apply Kd.R_alloc | apply Kd.R_drewN | apply Kd.R_drew)); exact HO_1.out⟩, ⟨by (with_reducible repeat (first | apply Kd.Q_alloc | apply Kd.Q_drewN | apply Kd.Q_drew)); exact HO142.out⟩, ⟨by (with_reducible repeat (first | apply Kd.S_alloc | apply Kd.S_drewN | apply Kd.S_drew)); exact HO_6.out⟩, ⟨by repeat (first | (with_reducible first | exact HK.out | apply Kept.alloc | apply Kept.drewN | apply Kept.drew) | exact HK.out)⟩, ⟨by repeat (first | (with_reducible first | exact HB.out | apply below_alloc | apply pw_below_drewN | apply below_drew1) | exact HB.out)⟩⟩
              ·rw [if_neg c39] at H
               have c39b0 : ((Go.bits .or .i64 (rd x1_2 (rd x2_2 0)) t145) == (rd x1_2 (rd x2_2 0))) = false := beq_eq_false_iff_ne.mpr c39
               have c39b1 : ((Go.bits .or .i64 (rd x1_2 (rd x2_2 0)) t145) != (rd x1_2 (rd x2_2 0))) = true := bne_iff_ne.mpr c39
               obtain ⟨y147, hy147⟩ : ∃ y_ : List Int, y_ = (x1_2.set ((rd x2_2 0) : Int).toNat (Go.bits .or .i64 (rd x1_2 (rd x2_2 0)) t145)) := ⟨_, rfl⟩
               replace H : (if (rd x2_2 0) < (x6_1.length : Int) then (fixpoint_propagate.l4 k2 l0 y147 y140 x6_1 (rd_L1 x6_1 (rd x2_2 0)) ((rd_L1 x6_1 (rd x2_2 0)).length : Int) 0) else (none)) = some r := by first | (rw [hy147]; with_reducible exact H) | (have H2_ := (Option.bind_some _ _).symm.trans H; rw [hy147]; with_reducible exact H2_) | (have H2_ := (Option.bind_some _ _).symm.trans H; with_reducible exact H2_) | with_reducible exact H | (rw [hy147]; exact H) | exact H
               have Ny147 := Aside0.mk hy147
               clear hy147
               by_cases c46 : (rd x2_2 0) < (x6_1.length : Int)
               ·rw [if_pos c46] at H
                have c46b0 : decide ((rd x2_2 0) < (x6_1.length : Int)) = true := decide_eq_true c46
                clear c46
                have H' := Aside0.mk H
                clear H
                obtain ⟨Ao47, co47, eo47, _⟩ := Kd.Q_slice HO_2.out
                subst eo47
                have p139 : 0 ≤ (0 : Int) := (by omega)
                have q139 : 0 < (x2_2.length : Int) := of_decide_eq_true (by first | (with_reducible assumption) | assumption)
                obtain ⟨ad139, e139, hx139_0⟩ := Kd.at_int (Kd.Q_reads' HO_2.out).2.2 0 p139 q139
                cases e139
                have qi139 : (0 < x2_2.length) = True := eq_true (by omega)
                (try rw [show ((0 : Int)).toNat = 0 from rfl] at hx139_0)
                (try rw [Addr.add_zero'] at hx139_0)
                replace p139 := eq_true p139
                replace q139 := eq_true q139
                have q48 : (1 : Int) ≤ ((x2_2.length : Int) : Int) := of_decide_eq_true (by first | (with_reducible assumption) | assumption)
                obtain ⟨i048, hi048, _, hsz48, _⟩ := info_parts info3
                have hcut48 := cut_from (P := Try.prog) 29 3 .i64 Try.underlying29 hi048 1 hsz48 (some ad139) x2_2.length co47 1 (by omega) q48
                have hr48 := Kd.Q_drop (k := (1 : Int).toNat) HO_2.out (by omega)
                obtain ⟨A48, hA48⟩ : ∃ A1, A1 = (if co47 = (1 : Int).toNat then (some ad139) else ((some ad139) : Option Addr).map (·.add ((1 : Int).toNat * 1))) := ⟨_, rfl⟩
                obtain ⟨c48, hc48⟩ : ∃ c1, c1 = co47 - (1 : Int).toNat := ⟨_, rfl⟩
                have hy48 : y140.length = x2_2.length - (1 : Int).toNat := (by rw [Ny140.out, List.length_drop])
                rw [← Ny140.out] at hr48
                rw [← hy48, ← hA48, ← hc48] at hcut48
                replace hr48 : Kd.Q (Kd.int .i64) 3 wr w0.heap.size (fun k_ => ((P1_ k_ ∨ P2_ k_) ∨ w.heap.size ≤ k_) ∧ some k_ ≠ (u9000_ : Value).ownBlock) (.slice A48 y140.length c48) y140 := (by rw [hA48, hc48, hy48]; exact hr48)
                have HE48 : Aside0 ((Value.slice A48 y140.length c48).ownBlock = (.slice (some ad139) x2_2.length co47 : Value).ownBlock) := ⟨by rw [hA48]; split <;> (cases ((some ad139) : Option Addr) <;> rfl)⟩
                clear hy48 hi048 hsz48 HO_2 hA48 hc48
                have HO142 := Aside0.mk hr48
                clear hr48
                replace q48 := eq_true q48
                have n_ := Aside0.mk (Kd.R_mono (ok' := fun k_ => ((((P1_ k_ ∨ P2_ k_) ∨ w.heap.size ≤ k_)) ∧ some k_ ≠ (.slice A48 y140.length c48 : Value).ownBlock)) HO_1.out (fun k_ hk => ⟨hk.1, (by rw [HE48.out]; exact hk.2)⟩))
                clear HO_1
                have HO_1 := n_
                clear n_
                have n_ := Aside0.mk (Kd.S_mono (ok' := fun k_ => ((((P1_ k_ ∨ P2_ k_) ∨ w.heap.size ≤ k_)) ∧ (some k_ ≠ (u9000_ : Value).ownBlock ∧ some k_ ≠ (.slice A48 y140.length c48 : Value).ownBlock))) HO_6.out (fun k_ hk => ⟨hk.1, ⟨hk.2.1, (by rw [HE48.out]; exact hk.2.2)⟩⟩))
                clear HO_6
                have HO_6 := n_
                clear n_
                try go_wp2
                have n0_ := Aside0.mk (Kd.R_drew HO_1.out)
                have n1_ := Aside0.mk (Kd.Q_drew HO142.out)
                have n2_ := Aside0.mk (Kd.S_drew HO_6.out)
                have n3_ := Aside0.mk (Kept.drew HK.out)
                have n4_ := Aside0.mk (below_drew1 HB.out)
                clear HO_1
                clear HO142
                clear HO_6
                clear HK
                clear HB
                have HO_1 := n0_
                have HO142 := n1_
                have HO_6 := n2_
                have HK := n3_
                have HB := n4_
                clear n0_ n1_ n2_ n3_ n4_
                obtain ⟨Ao50, co50, eo50⟩ := Kd.R_slice HO_1.out
                (first | subst eo50 | (injection eo50 with f1_ f2_ f3_; have f4_ := f1_.symm; have f5_ := f3_.symm; clear f1_ f2_ f3_; subst f4_; subst f5_))
                have p143 : 0 ≤ ((rd x2_2 0) : Int) := of_decide_eq_true (by first | (with_reducible assumption) | assumption)
                have q143 : (rd x2_2 0) < (x1_2.length : Int) := of_decide_eq_true (by first | (with_reducible assumption) | assumption)
                obtain ⟨ad143, e143, hx143_0⟩ := Kd.at_int (Kd.R_reads' HO_1.out).2.2 (rd x2_2 0) p143 q143
                cases e143
                replace p143 := eq_true p143
                replace q143 := eq_true q143
                have p144 : 0 ≤ ((rd x2_2 0) : Int) := of_decide_eq_true (by first | (with_reducible assumption) | assumption)
                have q144 : (rd x2_2 0) < (l0.length : Int) := of_decide_eq_true (by first | (with_reducible assumption) | assumption)
                obtain ⟨ad144, A144_0, c144_0, e144, hx144_0, hl144_0, hi144_0⟩ := atk_L3 HR0.out (HK.out) (rd x2_2 0) p144 q144
                have hw144_0 := hx144_0
                cases e144
                have HR144_0 := Aside0.mk hi144_0
                have HC144_0 := Aside0.mk hl144_0
                clear hi144_0 hl144_0
                replace p144 := eq_true p144
                replace q144 := eq_true q144
                refine start_ (n := 12) (S := fun w' => w'.cell? (ad143.add ((rd x2_2 0)).toNat) = some (.int .i64 (rd x1_2 (rd x2_2 0))) ∧ w'.cell? (ad144.add ((rd x2_2 0)).toNat) = some (.slice A144_0 (rd_L3 l0 (rd x2_2 0)).length c144_0)) (ds := []) #[false, false, false, false, false, false, false, false, false, false, false, false] (by kernel_rfl) rfl rfl ⟨hx143_0, hx144_0⟩ (fun hHeld => ?_); refine with_tabW fixpoint_propagate.tab18 fixpoint_propagate.bits18 (fun HT_ HW_ => ?_)
                generalize wr.drew = w49 at HO_1 HO142 HO_6 HK HB HR144_0 hx143_0 hx144_0 hHeld ⊢
                refine pure_ (i := 0) (N := some 68) (v := ?_) (a' := ?_) #[true, false, false, false, false, false, false, false, false, false, false, false] rfl rfl (any_of HT_.out (by kernel_rfl)) (fun _ _ _ h => h) (Or.inl ⟨by rfl, ?_⟩) ?_ ?_
                rotate_left
                ·intro w'
                 go_simp
                 with_reducible rfl
                rotate_left
                ·simp only [Act.put, List.setIfInBounds_toArray, List.set_cons_zero, List.set_cons_succ, i64_w, i32_w]
                 rfl
                refine pure_ (i := 1) (N := some 69) (v := ?_) (a' := ?_) #[true, true, false, false, false, false, false, false, false, false, false, false] rfl rfl (any_of HT_.out (by kernel_rfl)) (fun _ _ _ h => h) (Or.inl ⟨by rfl, ?_⟩) ?_ ?_
                rotate_left
                ·intro w'
                 go_simp
                 with_reducible rfl
                rotate_left
                ·simp only [Act.put, List.setIfInBounds_toArray, List.set_cons_zero, List.set_cons_succ, i64_w, i32_w]
                 rfl
                refine pure_ (i := 2) (N := some 70) (v := ?_) (a' := ?_) #[true, true, true, false, false, false, false, false, false, false, false, false] rfl rfl (any_of HT_.out (by kernel_rfl)) (fun _ _ _ h => h) (Or.inl ⟨by rfl, ?_⟩) ?_ ?_
                rotate_left
                ·intro w'
                 go_simp
                 with_reducible rfl
                rotate_left
                ·simp only [Act.put, List.setIfInBounds_toArray, List.set_cons_zero, List.set_cons_succ, i64_w, i32_w]
                 rfl
                refine pure_ (i := 4) (N := some 72) (v := ?_) (a' := ?_) #[true, true, true, false, true, false, false, false, false, false, false, false] rfl rfl (any_of HT_.out (by kernel_rfl)) (fun _ _ _ h => h) (Or.inl ⟨by rfl, ?_⟩) ?_ ?_
                rotate_left
                ·intro w'
                 go_simp
                 with_reducible rfl
                rotate_left
                ·simp only [Act.put, List.setIfInBounds_toArray, List.set_cons_zero, List.set_cons_succ, i64_w, i32_w]
                 rfl
                refine pure_ (i := 5) (N := some 73) (v := ?_) (a' := ?_) #[true, true, true, false, true, true, false, false, false, false, false, false] rfl rfl (any_of HT_.out (by kernel_rfl)) (fun _ _ _ h => h) (Or.inl ⟨by rfl, ?_⟩) ?_ ?_
                rotate_left
                ·intro w'
                 go_simp
                 with_reducible rfl
                rotate_left
                ·simp only [Act.put, List.setIfInBounds_toArray, List.set_cons_zero, List.set_cons_succ, i64_w, i32_w]
                 rfl
                refine pure_ (i := 6) (N := some 74) (v := ?_) (a' := ?_) #[true, true, true, false, true, true, true, false, false, false, false, false] rfl rfl (any_of HT_.out (by kernel_rfl)) (fun _ _ _ h => h) (Or.inl ⟨by rfl, ?_⟩) ?_ ?_
                rotate_left
                ·intro w'
                 go_simp
                 with_reducible rfl
                rotate_left
                ·simp only [Act.put, List.setIfInBounds_toArray, List.set_cons_zero, List.set_cons_succ, i64_w, i32_w]
                 rfl
                refine pure_ (i := 8) (N := some 76) (v := ?_) (a' := ?_) #[true, true, true, false, true, true, true, false, true, false, false, false] rfl rfl (any_of HT_.out (by kernel_rfl)) (fun _ _ _ h => h) (Or.inl ⟨by rfl, ?_⟩) ?_ ?_
                rotate_left
                ·intro w'
                 go_simp
                 with_reducible rfl
                rotate_left
                ·simp only [Act.put, List.setIfInBounds_toArray, List.set_cons_zero, List.set_cons_succ, i64_w, i32_w]
                 rfl
                refine take_ (i := 3) (N := some 71) (v := ?_) (a' := ?_) #[true, true, true, true, true, true, true, false, true, false, false, false] rfl rfl (take_ofW HT_.out HW_.out (by kernel_rfl)) (fun _ _ _ h => h) (Or.inl ⟨by rfl, ?_⟩) hHeld ?_ ?_
                rotate_left
                ·rintro w' ⟨s0, s1⟩
                 go_simp
                 with_reducible rfl
                rotate_left
                ·simp only [Act.put, List.setIfInBounds_toArray, List.set_cons_zero, List.set_cons_succ, i64_w, i32_w]
                 rfl
                refine take_ (i := 7) (N := some 75) (v := ?_) (a' := ?_) #[true, true, true, true, true, true, true, true, true, false, false, false] rfl rfl (take_ofW HT_.out HW_.out (by kernel_rfl)) (fun _ _ _ h => h) (Or.inl ⟨by rfl, ?_⟩) hHeld ?_ ?_
                rotate_left
                ·rintro w' ⟨s0, s1⟩
                 go_simp
                 with_reducible rfl
                rotate_left
                ·simp only [Act.put, List.setIfInBounds_toArray, List.set_cons_zero, List.set_cons_succ, i64_w, i32_w]
                 rfl
                refine one_ (i := 9) (N := some 77) #[true, true, true, true, true, true, true, true, true, true, false, false] rfl rfl (one_of HT_.out (by kernel_rfl)) (by decide) (fun K hK => ?_)
                refine goes_ Try.func168 (by kernel_rfl) rfl #[.slice A144_0 (rd_L3 l0 (rd x2_2 0)).length c144_0, .slice (some ad143) x1_2.length co50] (by rfl) rfl rfl (by (try simp only [List.map_toArray, List.map_cons, List.map_nil]); first | done | rfl | (simp only [List.length_drop, List.length_take]; rfl)) ?_
                with_reducible refine (fixpoint_deriveAll.calls k2 _ _ (rd_L3 l0 (rd x2_2 0)) _ _ x1_2 t145 _ ?side1 ?side2 ?side3 ?side4 A38.out).mono ?_
                (case side1 => exact Kd.C_kept_now HR144_0.out (by repeat (first | (with_reducible first | exact HK.out | apply Kept.alloc | apply Kept.drewN | apply Kept.drew) | exact HK.out)))
                (case side2 => exact HC144_0.out)
                (case side3 => repeat (first | exact (Kd.R_reads' HO_1.out).2.2 | (with_reducible refine Kd.C_alloc ?_ _) | (with_reducible refine Kd.C_drewN ?_ _) | (with_reducible refine Kd.C_drew ?_)))
                (case side4 => exact (Kd.R_reads' HO_1.out).2.1)
                rintro e w51 ⟨rfl, hb⟩
                have HS0_ := (hb.cell (World.block_lt_of_cell? _ _ (hHeld.1))).trans (hHeld.1)
                have HS1_ := (hb.cell (World.block_lt_of_cell? _ _ (hHeld.2))).trans (hHeld.2)
                refine ⟨_, rfl, ?_⟩
                have n0_ := Aside0.mk (Kd.R_below (by (with_reducible repeat (first | apply Kd.R_alloc | apply Kd.R_drewN | apply Kd.R_drew)); exact HO_1.out) hb)
                have n1_ := Aside0.mk (Kd.Q_below (by (with_reducible repeat (first | apply Kd.Q_alloc | apply Kd.Q_drewN | apply Kd.Q_drew)); exact HO142.out) hb)
                have n2_ := Aside0.mk (Kd.S_below (by (with_reducible repeat (first | apply Kd.S_alloc | apply Kd.S_drewN | apply Kd.S_drew)); exact HO_6.out) hb)
                have n3_ := Aside0.mk (Kept.below (S := (fun k_ => P1_ k_ ∨ P2_ k_)) (by repeat (first | (with_reducible first | exact HK.out | apply Kept.alloc | apply Kept.drewN | apply Kept.drew) | exact HK.out)) hb)
                have n4_ := Aside0.mk (below_step (by repeat (first | (with_reducible first | exact HB.out | apply below_alloc | apply pw_below_drewN | apply below_drew1) | exact HB.out)) hb)
                clear HO_1
                clear HO142
                clear HO_6
                clear HK
                clear HB
                have HO_1 := n0_
                have HO142 := n1_
                have HO_6 := n2_
                have HK := n3_
                have HB := n4_
                clear n0_ n1_ n2_ n3_ n4_
                (try clear hb)
                (try clear hb2)
                (try clear hk)
                (try clear hi)
                refine hK.out _ _ ⟨HS0_, HS1_⟩ (fun hHeld => ?_)
                clear hK K
                refine norm_ (a' := ?_) ?_ ?_
                rotate_left
                ·show Act.put _ (some 77) _ = _
                 simp only [Act.put, List.setIfInBounds_toArray, List.set_cons_zero, List.set_cons_succ, i64_w, i32_w]
                 rfl
                refine pure_ (i := 10) (N := some 78) (v := ?_) (a' := ?_) #[true, true, true, true, true, true, true, true, true, true, true, false] rfl rfl (any_of HT_.out (by kernel_rfl)) (fun _ _ _ h => h) (Or.inl ⟨by rfl, ?_⟩) ?_ ?_
                rotate_left
                ·intro w'
                 go_simp
                 with_reducible rfl
                rotate_left
                ·simp only [Act.put, List.setIfInBounds_toArray, List.set_cons_zero, List.set_cons_succ, i64_w, i32_w]
                 rfl
                refine pure_ (i := 11) (N := some 14) (v := ?_) (a' := ?_) #[true, true, true, true, true, true, true, true, true, true, true, true] rfl rfl (any_of HT_.out (by kernel_rfl)) (fun _ _ _ h => h) (Or.inl ⟨by rfl, ?_⟩) ?_ ?_
                rotate_left
                ·intro w'
                 go_simp
                 with_reducible rfl
                rotate_left
                ·simp only [Act.put, List.setIfInBounds_toArray, List.set_cons_zero, List.set_cons_succ, i64_w, i32_w]
                 rfl
                refine done_ (done_of HT_.out (by kernel_rfl)) ?_
                have p146 : 0 ≤ ((rd x2_2 0) : Int) := of_decide_eq_true (by first | (with_reducible assumption) | assumption)
                have q146 : (rd x2_2 0) < (x1_2.length : Int) := of_decide_eq_true (by first | (with_reducible assumption) | assumption)
                obtain ⟨ad146, e146, hx146_0⟩ := Kd.at_int (Kd.R_reads' HO_1.out).2.2 (rd x2_2 0) p146 q146
                obtain rfl : ad143 = ad146 := (by injection e146)
                replace p146 := eq_true p146
                replace q146 := eq_true q146
                have p45 : 0 ≤ ((rd x2_2 0) : Int) := of_decide_eq_true (by first | (with_reducible assumption) | assumption)
                have q45 : ((rd x2_2 0) : Int) < ((x1_2.length : Int) : Int) := of_decide_eq_true (by first | (with_reducible assumption) | assumption)
                obtain ⟨go45, co45, eo45, gb45, gl45, cl45, HG45⟩ := Kd.R_form HO_1.out (by omega)
                (first | cases eo45 | (injection eo45 with ea_ en_ ec_; (first | subst ea_ | (injection ea_ with ea_; subst ea_)); subst ec_; clear en_))
                have GB45 := Aside0.mk gb45
                have GG45 := Aside0.mk HG45
                clear gb45 gl45 HG45
                have HMgo45 := Aside0.mk (show ((P1_ go45 ∨ P2_ go45) ∨ w.heap.size ≤ go45) from (by first | exact (HO_1.out.1 _ rfl).1 | exact ((Kd.S_R HO_1.out).1 _ rfl).1))
                (first | simp only [add_plain] at hx143_0 | skip)
                (first | simp only [add_plain] at hx146_0 | skip)
                obtain ⟨hx45_0, hf45_0⟩ := Kd.R_celln 0 HO_1.out ((rd x2_2 0) : Int) p45 q45
                replace p45 := eq_true p45
                replace q45 := eq_true q45
                obtain ⟨hy52_, hz52_⟩ := Kd.R_celln 0 HO_1.out ((rd x2_2 0) : Int) (of_decide_eq_true (by first | (with_reducible assumption) | assumption)) (of_decide_eq_true (by first | (with_reducible assumption) | assumption))
                have HP52 := Kd.R_putg HO_1.out ((rd x2_2 0) : Int) (Go.bits .or .i64 (rd x1_2 (rd x2_2 0)) t145)
                try go_wp2_with (first | ((with_reducible refine gate_store (t := 3) (p := 88) rfl ?_); refine store_event (t := 3) (p := 88) (v := ?vo_w53) (w1 := (w51.setCell ⟨go45, ((rd x2_2 0) : Int).toNat, none⟩ (.int .i64 (Go.bits .or .i64 (rd x1_2 (rd x2_2 0)) t145)))) ?hg ?ho ?hn ?hr ?_; (case ho => rfl); (case hg => rfl); (case hn => rfl); (case hr => first | (go_simp; done) | (go_simp; rfl)); intro w53 hw; have hg : w51.grownBy w53 (some go45) := (by rw [hw]; exact HP52.2); have hp_ : Kd.R (Kd.int .i64) 3 w53 w0.heap.size (fun k_ => ((P1_ k_ ∨ P2_ k_) ∨ w.heap.size ≤ k_) ∧ some k_ ≠ (.slice A48 y140.length c48 : Value).ownBlock) (.slice (some ⟨go45, 0, none⟩) x1_2.length co50) y147 := (by rw [hw, Ny147.out]; exact HP52.1); clear HP52; have n0_ := Aside0.mk (hp_); have n1_ := Aside0.mk (Kd.Q_after (v := (.slice (some ⟨go45, 0, none⟩) x1_2.length co50)) (v1 := (.slice (some ⟨go45, 0, none⟩) x1_2.length co50)) (ok := (fun k_ => ((P1_ k_ ∨ P2_ k_) ∨ w.heap.size ≤ k_))) (by (with_reducible repeat (first | apply Kd.Q_alloc | apply Kd.Q_drewN | apply Kd.Q_drew)); exact HO142.out) hg (.inl rfl)); have n2_ := Aside0.mk (Kd.S_after (v := (.slice (some ⟨go45, 0, none⟩) x1_2.length co50)) (v1 := (.slice (some ⟨go45, 0, none⟩) x1_2.length co50)) (ok := (fun k_ => ((P1_ k_ ∨ P2_ k_) ∨ w.heap.size ≤ k_) ∧ some k_ ≠ (.slice A48 y140.length c48 : Value).ownBlock)) (by (with_reducible repeat (first | apply Kd.S_alloc | apply Kd.S_drewN | apply Kd.S_drew)); exact Kd.S_mono HO_6.out (fun _ hk => ⟨⟨hk.1, hk.2.2⟩, hk.2.1⟩)) hg (.inl rfl)); have n3_ := Aside0.mk ((by rw [hw]; exact below_set (HB.out) GB45.out : Below w0.heap.size w0 w53)); have n4_ := Aside0.mk (Kept.of_grown (S := (fun k_ => P1_ k_ ∨ P2_ k_)) hg (by repeat (first | (with_reducible first | exact HK.out | apply Kept.alloc | apply Kept.drewN | apply Kept.drew) | exact HK.out)) (fun k_ e_ => (HO_1.out.1 k_ e_).1)); clear HO_1; clear HO142; clear HO_6; clear HB; clear HK; have HO_1 := n0_; have HO142 := n1_; have HO_6 := n2_; have HB := n3_; have HK := n4_; clear n0_ n1_ n2_ n3_ n4_; clear hg hw hp_; obtain ⟨Ao54, co54, eo54⟩ := Kd.S_slice HO_6.out; subst eo54; have p148 : 0 ≤ ((rd x2_2 0) : Int) := of_decide_eq_true (by first | (with_reducible assumption) | assumption); have q148 : (rd x2_2 0) < (x6_1.length : Int) := of_decide_eq_true (by first | (with_reducible assumption) | assumption); obtain ⟨ad148, A148_0, c148_0, e148, hx148_0, hl148_0, hi148_0⟩ := at_L1 (Kd.S_reads' HO_6.out).2.2 (rd x2_2 0) p148 q148; cases e148; obtain ⟨ce148, hce148, hMe148, hcc148⟩ := Kd.S_get HO_6.out [] (rd x2_2 0) p148 (by first | exact q148 | exact of_decide_eq_true (by first | (with_reducible assumption) | assumption) | (have e_ := (Kd.S_reads' HO_6.out).1; omega)); obtain ⟨ve148_0, rfl, ge148_0⟩ := hMe148; have hv148_0 := hcc148 0 _ rfl; rw [Nat.add_zero, show ((Kd.slice 3 (Kd.int .i64))).sz = 1 from rfl, Nat.mul_one] at hv148_0; replace hv148_0 := Option.some.inj (hv148_0.symm.trans hx148_0); rw [hv148_0] at ge148_0; have HL148_0 := Aside0.mk (show Kd.R (Kd.int .i64) 3 _ _ _ _ (rd_L1 x6_1 (rd x2_2 0)) from ge148_0); clear hv148_0 ge148_0; have HX148_0 := Aside0.mk hx148_0; clear hcc148 hce148; have HR148_0 := Aside0.mk hi148_0; have HC148_0 := Aside0.mk hl148_0; clear hi148_0 hl148_0; replace p148 := eq_true p148; replace q148 := eq_true q148))
                go_loopg [2, 94] k2 (fun kq v2 v94 w' => ∃ (x2_3 : List Int) (x94_3 : Int), v94 = .int .i64 x94_3 ∧ Aside0 (fixpoint_propagate.l4 kq l0 y147 x2_3 x6_1 (rd_L1 x6_1 (rd x2_2 0)) ((rd_L1 x6_1 (rd x2_2 0)).length : Int) x94_3 = some r) ∧ Aside0 (kq ≤ k2) ∧ Aside0 (Kd.R (Kd.int .i64) 3 w' w0.heap.size (fun k_ => ((P1_ k_ ∨ P2_ k_) ∨ w.heap.size ≤ k_) ∧ some k_ ≠ (v2 : Value).ownBlock) (.slice (some ⟨go45, 0, none⟩) x1_2.length co50) y147) ∧ Aside0 (Kd.Q (Kd.int .i64) 3 w' w0.heap.size (fun k_ => ((P1_ k_ ∨ P2_ k_) ∨ w.heap.size ≤ k_) ∧ some k_ ≠ ((.slice (some ⟨go45, 0, none⟩) x1_2.length co50) : Value).ownBlock) v2 x2_3) ∧ Aside0 (Kd.S (Kd.slice 3 (Kd.int .i64)) 29 w' w0.heap.size (fun k_ => ((P1_ k_ ∨ P2_ k_) ∨ w.heap.size ≤ k_) ∧ some k_ ≠ ((.slice (some ⟨go45, 0, none⟩) x1_2.length co50) : Value).ownBlock ∧ some k_ ≠ (v2 : Value).ownBlock) (.slice (some ad148) x6_1.length co54) x6_1) ∧ Aside0 (Kept w w' (fun k_ => P1_ k_ ∨ P2_ k_)) ∧ Aside0 (Below w0.heap.size w0 w') ∧ Aside0 (Kd.R (Kd.int .i64) 3 w' w0.heap.size (fun k_ => ((P1_ k_ ∨ P2_ k_) ∨ w.heap.size ≤ k_) ∧ some k_ ≠ (v2 : Value).ownBlock) (.slice A148_0 (rd_L1 x6_1 (rd x2_2 0)).length c148_0) (rd_L1 x6_1 (rd x2_2 0))))
                case atStart => exact ⟨(y140), (0), (by first | rfl | (simp; done) | (simp [*]; done) | (simp [isEmpty_bne]; done)), H', ⟨Nat.le_refl _⟩, ⟨by (with_reducible repeat (first | apply Kd.R_alloc | apply Kd.R_drewN | apply Kd.R_drew)); exact HO_1.out⟩, ⟨by (with_reducible repeat (first | apply Kd.Q_alloc | apply Kd.Q_drewN | apply Kd.Q_drew)); exact HO142.out⟩, ⟨by (with_reducible repeat (first | apply Kd.S_alloc | apply Kd.S_drewN | apply Kd.S_drew)); exact Kd.S_mono HO_6.out (fun _ hk => ⟨hk.1.1, ⟨hk.2, hk.1.2⟩⟩)⟩, ⟨by repeat (first | (with_reducible first | exact HK.out | apply Kept.alloc | apply Kept.drewN | apply Kept.drew) | exact HK.out)⟩, ⟨by repeat (first | (with_reducible first | exact HB.out | apply below_alloc | apply pw_below_drewN | apply below_drew1) | exact HB.out)⟩, ⟨Kd.R_mono HL148_0.out (fun _ hk => by first | exact hk.1.1 | exact ⟨hk.1.1.1, hk.1.2⟩ | exact ⟨hk.1.1, hk.1.2⟩ | exact hk.1)⟩⟩
                case round =>
                 clear H'
                 try clear c1
                 try clear p1
                 try clear q1
                 try clear hx1
                 try clear qi1
                 try clear c2
                 try clear p2
                 try clear q2
                 try clear hx2
                 try clear c3
                 try clear c4
                 try clear c4b0
                 try clear c4b1
                 try clear p4
                 try clear q4
                 try clear hx4
                 try clear hf4
                 try clear c5
                 try clear c5b0
                 try clear c5b1
                 try clear p6
                 try clear c8
                 try clear c8b0
                 try clear c9
                 try clear c9b0
                 try clear c10
                 try clear c10b0
                 try clear c11
                 try clear c11b0
                 try clear c12
                 try clear c12b0
                 try clear p12
                 try clear q12
                 try clear hx12
                 try clear c13
                 try clear c13b0
                 try clear p13
                 try clear q13
                 try clear hx13
                 try clear qi13
                 try clear c14
                 try clear p14
                 try clear q14
                 try clear hx14
                 try clear c16
                 try clear c16b0
                 try clear c17
                 try clear c17b0
                 try clear c18
                 try clear c18b0
                 try clear c19
                 try clear c19b0
                 try clear c20
                 try clear c20b0
                 try clear c22
                 try clear c24
                 try clear p25
                 try clear q25
                 try clear c27
                 try clear c29
                 try clear hx29
                 try clear hf29
                 try clear c32
                 try clear c32b0
                 try clear c32b1
                 try clear c33
                 try clear c33b0
                 try clear c33b1
                 try clear c34
                 try clear c34b0
                 try clear c34b1
                 try clear c35
                 try clear c35b0
                 try clear c36
                 try clear c36b0
                 try clear c37
                 try clear c37b0
                 try clear c39
                 try clear c39b0
                 try clear c39b1
                 try clear c41
                 try clear q41
                 try clear p45
                 try clear q45
                 try clear hx45
                 try clear hf45
                 try clear c46
                 try clear c46b0
                 try clear c48
                 try clear q48
                 try clear hcz15_0
                 try clear hcz15_1
                 try clear hfz15_0
                 try clear hfz15_1
                 try clear hx128_0
                 try clear hx129_0
                 try clear hx129_1
                 try clear hx131_0
                 try clear hx132_0
                 try clear hx134_0
                 try clear hx139_0
                 try clear hx143_0
                 try clear hx144_0
                 try clear hx146_0
                 try clear hx148_0
                 try clear hx29_0
                 try clear hx45_0
                 try clear p1
                 try clear p12
                 try clear p128
                 try clear p129
                 try clear p13
                 try clear p131
                 try clear p132
                 try clear p134
                 try clear p139
                 try clear p143
                 try clear p144
                 try clear p146
                 try clear p148
                 try clear p2
                 try clear p25
                 try clear p45
                 try clear p6
                 try clear q1
                 try clear q12
                 try clear q128
                 try clear q129
                 try clear q13
                 try clear q131
                 try clear q132
                 try clear q134
                 try clear q139
                 try clear q143
                 try clear q144
                 try clear q146
                 try clear q148
                 try clear q2
                 try clear q25
                 try clear q41
                 try clear q45
                 try clear q48
                 obtain ⟨x2_3, x94_3, rfl, HA, HK3, HO_1, HO_2, HO_6, HK, HB, HL148_0⟩ := hrel
                 have HR148_0 := Aside0.mk (Kd.R_reads' HL148_0.out).2.2
                 have hl1_3 := (Kd.R_reads' HO_1.out).1
                 rw [hl1_3] at HO_1
                 (try simp only [hl1_3])
                 (try simp only [hl1_3] at HO_2)
                 (try simp only [hl1_3] at HO_6)
                 cases gk with
                 | zero => exact absurd HA.out (by simp [fixpoint_propagate.l4])
                 | succ k3 =>
                  have H := HA.out
                  clear HA
                  simp only [fixpoint_propagate.l4] at H
                  by_cases c55 : x94_3 < ((rd_L1 x6_1 (rd x2_2 0)).length : Int)
                  ·rw [if_pos c55] at H
                   have c55b0 : decide (x94_3 < ((rd_L1 x6_1 (rd x2_2 0)).length : Int)) = true := decide_eq_true c55
                   try (have c55b0qhl1_3 := c55b0; rw [hl1_3] at c55b0qhl1_3)
                   clear c55
                   by_cases c56 : 0 ≤ x94_3
                   ·rw [if_pos c56] at H
                    have c56b0 : decide (0 ≤ x94_3) = true := decide_eq_true c56
                    clear c56
                    by_cases c57 : x94_3 < ((rd_L1 x6_1 (rd x2_2 0)).length : Int)
                    ·rw [if_pos c57] at H
                     have c57b0 : decide (x94_3 < ((rd_L1 x6_1 (rd x2_2 0)).length : Int)) = true := decide_eq_true c57
                     try (have c57b0qhl1_3 := c57b0; rw [hl1_3] at c57b0qhl1_3)
                     clear c57
                     replace H := Option.bind_eq_some_iff.mp H
                     obtain ⟨t150, A580, H⟩ := H
                     replace H : (if t150 = true then (fixpoint_propagate.l4 k3 l0 y147 x2_3 x6_1 (rd_L1 x6_1 (rd x2_2 0)) ((rd_L1 x6_1 (rd x2_2 0)).length : Int) (wrap64 (x94_3 + 1))) else (if x2_3.length < 17592186044416 then (fixpoint_propagate.l4 k3 l0 y147 (x2_3 ++ [rd (rd_L1 x6_1 (rd x2_2 0)) x94_3]) x6_1 (rd_L1 x6_1 (rd x2_2 0)) ((rd_L1 x6_1 (rd x2_2 0)).length : Int) (wrap64 (x94_3 + 1))) else (none))) = some r := H
                     have A58 := Aside0.mk A580
                     clear A580
                     by_cases c59 : t150 = true
                     ·subst c59
                      have H1 : (fixpoint_propagate.l4 k3 l0 y147 x2_3 x6_1 (rd_L1 x6_1 (rd x2_2 0)) ((rd_L1 x6_1 (rd x2_2 0)).length : Int) (wrap64 (x94_3 + 1))) = some r := by rw [if_pos rfl] at H; exact H
                      clear H
                      have H := H1
                      clear H1
                      have H' := Aside0.mk H
                      clear H
                      have p149 : 0 ≤ (x94_3 : Int) := of_decide_eq_true (by first | (with_reducible assumption) | assumption)
                      have q149 : x94_3 < ((rd_L1 x6_1 (rd x2_2 0)).length : Int) := of_decide_eq_true (by first | (with_reducible assumption) | assumption)
                      obtain ⟨ad149, e149, hx149_0⟩ := Kd.at_int HR148_0.out x94_3 p149 q149
                      cases e149
                      skip
                      replace p149 := eq_true p149
                      replace q149 := eq_true q149
                      obtain ⟨Ao60, co60, eo60, _⟩ := Kd.Q_slice HO_2.out
                      subst eo60
                      go_wp2_with (first | ((with_reducible refine gate_callee (f := 174) rfl ?_); refine goesL_ (some 100) rfl rfl Try.func174 (by kernel_rfl) rfl #[.slice Ao60 x2_3.length co60, .int .i64 (rd (rd_L1 x6_1 (rd x2_2 0)) x94_3)] rfl (by (try simp only [List.map_toArray, List.map_cons, List.map_nil]); first | done | rfl | (simp only [List.length_drop, List.length_take]; rfl)) ?_; (with_reducible refine (slices_Contains_int_int.calls k3 _ _ x2_3 (rd (rd_L1 x6_1 (rd x2_2 0)) x94_3) true _ ?side1 ?side2 A58.out).mono ?_); (case side1 => repeat (first | exact (Kd.Q_reads' HO_2.out).2.2 | (with_reducible refine Kd.C_alloc ?_ _) | (with_reducible refine Kd.C_drewN ?_ _) | (with_reducible refine Kd.C_drew ?_))); (case side2 => exact (Kd.Q_reads' HO_2.out).2.1); rintro e w' ⟨rfl, ⟨nd, rfl⟩⟩; refine ⟨_, rfl, ?_⟩))
                      (try simp only [← hl1_3])
                      go_roundg k3
                      case measure => have := HK1.out; have := HK2.out; have := HK3.out; omega
                      case rel => exact ⟨(x2_3), (wrap64 (x94_3 + 1)), (by first | rfl | (simp; done) | (simp [*]; done) | (simp [isEmpty_bne]; done)), H', ⟨by have := HK1.out; have := HK2.out; have := HK3.out; omega⟩, ⟨by (try simp only [hl1_3]); (with_reducible repeat (first | apply Kd.R_alloc | apply Kd.R_drewN | apply Kd.R_drew)); exact HO_1.out⟩, ⟨by (try simp only [hl1_3]); (with_reducible repeat (first | apply Kd.Q_alloc | apply Kd.Q_drewN | apply Kd.Q_drew)); exact HO_2.out⟩, ⟨by (try simp only [hl1_3]); (with_reducible repeat (first | apply Kd.S_alloc | apply Kd.S_drewN | apply Kd.S_drew)); exact HO_6.out⟩, ⟨by repeat (first | (with_reducible first | exact HK.out | apply Kept.alloc | apply Kept.drewN | apply Kept.drew) | exact HK.out)⟩, ⟨by repeat (first | (with_reducible first | exact HB.out | apply below_alloc | apply pw_below_drewN | apply below_drew1) | exact HB.out)⟩, ⟨by (with_reducible repeat (first | apply Kd.R_alloc | apply Kd.R_drewN | apply Kd.R_drew)); exact HL148_0.out⟩⟩
                     ·replace c59 := Bool.eq_false_iff.mpr c59
                      subst c59
                      have H1 : (if x2_3.length < 17592186044416 then (fixpoint_propagate.l4 k3 l0 y147 (x2_3 ++ [rd (rd_L1 x6_1 (rd x2_2 0)) x94_3]) x6_1 (rd_L1 x6_1 (rd x2_2 0)) ((rd_L1 x6_1 (rd x2_2 0)).length : Int) (wrap64 (x94_3 + 1))) else (none)) = some r := by rw [if_neg (show ¬ (false = true) by decide)] at H; exact H
                      clear H
                      have H := H1
                      clear H1
                      by_cases c61 : x2_3.length < 17592186044416
                      ·rw [if_pos c61] at H
                       have LMc61 := Aside0.mk c61
                       clear c61
                       obtain ⟨y151, hy151⟩ : ∃ y_ : List Int, y_ = (x2_3 ++ [rd (rd_L1 x6_1 (rd x2_2 0)) x94_3]) := ⟨_, rfl⟩
                       replace H : (fixpoint_propagate.l4 k3 l0 y147 y151 x6_1 (rd_L1 x6_1 (rd x2_2 0)) ((rd_L1 x6_1 (rd x2_2 0)).length : Int) (wrap64 (x94_3 + 1))) = some r := by first | (rw [hy151]; with_reducible exact H) | (have H2_ := (Option.bind_some _ _).symm.trans H; rw [hy151]; with_reducible exact H2_) | (have H2_ := (Option.bind_some _ _).symm.trans H; with_reducible exact H2_) | with_reducible exact H | (rw [hy151]; exact H) | exact H
                       have Ny151 := Aside0.mk hy151
                       clear hy151
                       have H' := Aside0.mk H
                       clear H
                       have p149 : 0 ≤ (x94_3 : Int) := of_decide_eq_true (by first | (with_reducible assumption) | assumption)
                       have q149 : x94_3 < ((rd_L1 x6_1 (rd x2_2 0)).length : Int) := of_decide_eq_true (by first | (with_reducible assumption) | assumption)
                       obtain ⟨ad149, e149, hx149_0⟩ := Kd.at_int HR148_0.out x94_3 p149 q149
                       cases e149
                       skip
                       replace p149 := eq_true p149
                       replace q149 := eq_true q149
                       obtain ⟨Ao62, co62, eo62, _⟩ := Kd.Q_slice HO_2.out
                       subst eo62
                       go_wp2_with (first | ((with_reducible refine gate_callee (f := 174) rfl ?_); refine goesL_ (some 100) rfl rfl Try.func174 (by kernel_rfl) rfl #[.slice Ao62 x2_3.length co62, .int .i64 (rd (rd_L1 x6_1 (rd x2_2 0)) x94_3)] rfl (by (try simp only [List.map_toArray, List.map_cons, List.map_nil]); first | done | rfl | (simp only [List.length_drop, List.length_take]; rfl)) ?_; (with_reducible refine (slices_Contains_int_int.calls k3 _ _ x2_3 (rd (rd_L1 x6_1 (rd x2_2 0)) x94_3) false _ ?side1 ?side2 A58.out).mono ?_); (case side1 => repeat (first | exact (Kd.Q_reads' HO_2.out).2.2 | (with_reducible refine Kd.C_alloc ?_ _) | (with_reducible refine Kd.C_drewN ?_ _) | (with_reducible refine Kd.C_drew ?_))); (case side2 => exact (Kd.Q_reads' HO_2.out).2.1); rintro e w' ⟨rfl, ⟨nd, rfl⟩⟩; refine ⟨_, rfl, ?_⟩) | ((with_reducible refine gate_builtin (b := .append) (xs := #[.tmp 102, .tmp 104]) rfl ?_); at_builtin; refine Kd.Q_append (Kd.int .i64) (w0 := w0) w0.heap.size rfl (.tmp 102) (.tmp 104) 29 3 (.int .i64 0) 8 rfl Try.underlying29 info3 rfl (by decide) (by omega) (.slice Ao62 x2_3.length co62) x2_3 (rd (rd_L1 x6_1 (rd x2_2 0)) x94_3) [.int .i64 (rd (rd_L1 x6_1 (rd x2_2 0)) x94_3)] (fun k_ => ((P1_ k_ ∨ P2_ k_) ∨ w.heap.size ≤ k_) ∧ some k_ ≠ (.slice (some ⟨go45, 0, none⟩) y147.length co50 : Value).ownBlock) (fun _ => False) rfl rfl ?aP (fun _ hk => hk.elim) ?aF ?aO ?aB ?aS ?aL ?_; (case aP => exact rfl); (case aB => exact (by repeat (first | (with_reducible first | exact HB.out | apply below_alloc | apply pw_below_drewN | apply below_drew1) | exact HB.out))); (case aF => exact (fun k_ hk => ⟨(.inr (Nat.le_trans (by first | exact HK.out.1 | exact (show Kept w _ (fun k_ => P1_ k_ ∨ P2_ k_) from by repeat (first | (with_reducible first | exact HK.out | apply Kept.alloc | apply Kept.drewN | apply Kept.drew) | exact HK.out)).1) hk)), Kd.fresh' (Kd.R_lt (by (with_reducible repeat (first | apply Kd.R_alloc | apply Kd.R_drewN | apply Kd.R_drew)); exact HO_1.out)) k_ hk⟩)); (case aO => exact (by (with_reducible repeat (first | apply Kd.Q_alloc | apply Kd.Q_drewN | apply Kd.Q_drew)); exact HO_2.out)); (case aS => exact (below_size (by repeat (first | (with_reducible first | exact HB.out | apply below_alloc | apply pw_below_drewN | apply below_drew1) | exact HB.out)))); (case aL => have := LMc61.out; omega); intro v152 w63 ho hb hg hat; rw [← Ny151.out] at ho; have n0_ := Aside0.mk (Kd.R_after (ok := (fun k_ => ((P1_ k_ ∨ P2_ k_) ∨ w.heap.size ≤ k_))) (by (with_reducible repeat (first | apply Kd.R_alloc | apply Kd.R_drewN | apply Kd.R_drew)); exact HO_1.out) hg hat); have n1_ := Aside0.mk (Kd.S_after (ok := (fun k_ => ((P1_ k_ ∨ P2_ k_) ∨ w.heap.size ≤ k_) ∧ some k_ ≠ (.slice (some ⟨go45, 0, none⟩) y147.length co50 : Value).ownBlock)) (by (with_reducible repeat (first | apply Kd.S_alloc | apply Kd.S_drewN | apply Kd.S_drew)); exact Kd.S_mono HO_6.out (fun _ hk => ⟨⟨hk.1, hk.2.1⟩, hk.2.2⟩)) hg hat); have n2_ := Aside0.mk (hb); have n3_ := Aside0.mk (Kept.of_grown (S := (fun k_ => P1_ k_ ∨ P2_ k_)) hg (by repeat (first | (with_reducible first | exact HK.out | apply Kept.alloc | apply Kept.drewN | apply Kept.drew) | exact HK.out)) (fun k_ e_ => (HO_2.out.1 k_ e_).1)); have n4_ := Aside0.mk (ho); have n9_ := Aside0.mk (Kd.R_after (ok := (fun k_ => ((P1_ k_ ∨ P2_ k_) ∨ w.heap.size ≤ k_))) (by (with_reducible repeat (first | apply Kd.R_alloc | apply Kd.R_drewN | apply Kd.R_drew)); exact HL148_0.out) hg hat); clear HL148_0; have HL148_0 := n9_; clear n9_; clear HO_1; clear HO_6; clear HB; clear HK; clear HO_2; have HO_1 := n0_; have HO_6 := n1_; have HB := n2_; have HK := n3_; have HO153 := n4_; clear n0_ n1_ n2_ n3_ n4_; clear ho hb hg hat))
                       (try simp only [← hl1_3])
                       go_roundg k3
                       case measure => have := HK1.out; have := HK2.out; have := HK3.out; omega
                       case rel => exact ⟨(y151), (wrap64 (x94_3 + 1)), (by first | rfl | (simp; done) | (simp [*]; done) | (simp [isEmpty_bne]; done)), H', ⟨by have := HK1.out; have := HK2.out; have := HK3.out; omega⟩, ⟨by (try simp only [hl1_3]); (with_reducible repeat (first | apply Kd.R_alloc | apply Kd.R_drewN | apply Kd.R_drew)); exact HO_1.out⟩, ⟨by (try simp only [hl1_3]); (with_reducible repeat (first | apply Kd.Q_alloc | apply Kd.Q_drewN | apply Kd.Q_drew)); exact HO153.out⟩, ⟨by (try simp only [hl1_3]); (with_reducible repeat (first | apply Kd.S_alloc | apply Kd.S_drewN | apply Kd.S_drew)); exact Kd.S_mono HO_6.out (fun _ hk => ⟨hk.1.1, ⟨hk.1.2, hk.2⟩⟩)⟩, ⟨by repeat (first | (with_reducible first | exact HK.out | apply Kept.alloc | apply Kept.drewN | apply Kept.drew) | exact HK.out)⟩, ⟨by repeat (first | (with_reducible first | exact HB.out | apply below_alloc | apply pw_below_drewN | apply below_drew1) | exact HB.out)⟩, ⟨by (with_reducible repeat (first | apply Kd.R_alloc | apply Kd.R_drewN | apply Kd.R_drew)); exact HL148_0.out⟩⟩
                      ·rw [if_neg c61] at H
                       exact absurd H (by simp)
                    ·rw [if_neg c57] at H
                     exact absurd H (by simp)
                   ·rw [if_neg c56] at H
                    exact absurd H (by simp)
                  ·rw [if_neg c55] at H
                   have c55b0 : decide (x94_3 < ((rd_L1 x6_1 (rd x2_2 0)).length : Int)) = false := decide_eq_false c55
                   try (have c55b0qhl1_3 := c55b0; rw [hl1_3] at c55b0qhl1_3)
                   clear c55
                   have H' := Aside0.mk H
                   clear H
                   go_wp2
                   (try simp only [← hl1_3])
                   go_roundg k3
                   case measure => have := HK1.out; have := HK2.out; have := HK3.out; omega
                   case rel => exact ⟨(y147), (x2_3), H', ⟨by have := HK1.out; have := HK2.out; have := HK3.out; omega⟩, ⟨by (try simp only [hl1_3]); (with_reducible repeat (first | apply Kd.R_alloc | apply Kd.R_drewN | apply Kd.R_drew)); exact HO_1.out⟩, ⟨by (try simp only [hl1_3]); (with_reducible repeat (first | apply Kd.Q_alloc | apply Kd.Q_drewN | apply Kd.Q_drew)); exact HO_2.out⟩, ⟨by (try simp only [hl1_3]); (with_reducible repeat (first | apply Kd.S_alloc | apply Kd.S_drewN | apply Kd.S_drew)); exact HO_6.out⟩, ⟨by repeat (first | (with_reducible first | exact HK.out | apply Kept.alloc | apply Kept.drewN | apply Kept.drew) | exact HK.out)⟩, ⟨by repeat (first | (with_reducible first | exact HB.out | apply below_alloc | apply pw_below_drewN | apply below_drew1) | exact HB.out)⟩⟩
               ·rw [if_neg c46] at H
                exact absurd H (by simp)
             ·rw [if_neg c37] at H
              exact absurd H (by simp)
            ·rw [if_neg c36] at H
             exact absurd H (by simp)
           ·rw [if_neg c35] at H
            exact absurd H (by simp)
          ·rw [if_neg c34] at H
           exact absurd H (by simp)
         ·rw [if_neg c33] at H
          exact absurd H (by simp)
        ·rw [if_neg c32] at H
         have c32b0 : decide (0 < (x2_2.length : Int)) = false := decide_eq_false c32
         have c32b1 : decide (0 < x2_2.length) = false := decide_eq_false (by omega)
         clear c32
         obtain rfl := Option.some.inj H
         obtain ⟨Ao64, co64, eo64, _⟩ := Kd.Q_slice HO_2.out
         subst eo64
         go_wp2
         first | go_end0 | ((try simp only [Exit.inBlock, Exit.then]); refine bodyPost_ret (results_none rfl _ _ _) rfl ?_)
         exact ⟨by first | rfl | (simp [errW_none, errW_some] <;> rfl) | (simp [*, errW_none, errW_some] <;> rfl), by (with_reducible repeat (first | apply Kd.R_alloc | apply Kd.R_drewN | apply Kd.R_drew)); exact Kd.R_mono HO_1.out (fun _ hk => hk.1), by repeat (first | (with_reducible first | exact HB.out | apply below_alloc | apply pw_below_drewN | apply below_drew1) | exact HB.out), by repeat (first | (with_reducible first | exact HK.out | apply Kept.alloc | apply Kept.drewN | apply Kept.drew) | exact HK.out)⟩
  ·rw [if_neg c5] at H
   exact absurd H (by simp)
 ·rw [if_neg c4] at H
  exact absurd H (by simp)

end Go.Proofs.Ytglckkkjfcomlaa.QFixpointProofs
