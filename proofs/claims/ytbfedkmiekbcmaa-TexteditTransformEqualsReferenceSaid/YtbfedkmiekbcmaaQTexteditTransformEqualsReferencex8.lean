-- Written by gen.py (this repo's wip/), which runs the kit's print.py with more arms. Lean checks it.
import Derived.Test.YtbfedkmiekbcmaaQTexteditTransformEqualsReferencex0
import Derived.Test.YtbfedkmiekbcmaaQTexteditTransformEqualsReferencex7
namespace Go.Proofs.Ytbfedkmiekbcmaa.QTexteditTransformEqualsReference
open Go.RowKit Go.Proofs.YtbfedkmiekbcmaaW.PrintWords Go.Proofs.YtbfedkmiekbcmaaW.PrintLast Go.Proofs.YtbfedkmiekbcmaaW.PrintMore
attribute [local go_sem] max2_int min2_int max_two min_two max_three min_three max_four min_four   -- for this text's walks alone
set_option linter.unusedVariables false
set_option linter.unusedSimpArgs false

private theorem isEmpty_bne {α : Type} [BEq α] (l : List α) : (l != []) = !l.isEmpty := by cases l <;> rfl

/-! ### glossatorref4_MergeEdits: function 73 -/
mutual
def glossatorref4_MergeEdits.j0 : Nat → ByteArray → List (S137) → List (S137) → Bool → List (S137) → Option ((List (S193)))
  | 0, _, _, _, _, _ => none
  | k + 1, x0, x1, x2, x3, x9 => glossatorref4_MergeEdits.l0 k x0 x1 x2 x3 x9 ([] : List (S193)) 0 0
def glossatorref4_MergeEdits.l0 : Nat → ByteArray → List (S137) → List (S137) → Bool → List (S137) → List (S193) → Int → Int → Option ((List (S193)))
  | 0, _, _, _, _, _, _, _, _ => none
  | k + 1, x0, x1, x2, x3, x9, x10, x11, x12 => if x12 ≤ (x0.size : Int) then (glossatorref4_MergeEdits.l1 k x0 x1 x2 x3 x9 x10 x11 x12 0) else (some x10)
def glossatorref4_MergeEdits.l1 : Nat → ByteArray → List (S137) → List (S137) → Bool → List (S137) → List (S193) → Int → Int → Int → Option ((List (S193)))
  | 0, _, _, _, _, _, _, _, _, _ => none
  | k + 1, x0, x1, x2, x3, x9, x10, x11, x12, x13 => if x13 < 2 then (if x13 = 0 then (glossatorref4_MergeEdits.j3 k x0 x1 x2 x3 x9 x10 x11 x12 x13 (x13 == 0) x1) else (glossatorref4_MergeEdits.j3 k x0 x1 x2 x3 x9 x10 x11 x12 x13 (x13 == 0) x2)) else (if x12 = (x0.size : Int) then (some x10) else ((glossatorref4_DeletesByte.f k x1 x12).bind fun t196 => (if t196 = true then (glossatorref4_MergeEdits.j5 k x0 x1 x2 x3 x9 x10 x11 x12 false) else ((glossatorref4_DeletesByte.f k x2 x12).bind fun t197 => (glossatorref4_MergeEdits.j5 k x0 x1 x2 x3 x9 x10 x11 x12 (!t197))))))
def glossatorref4_MergeEdits.j3 : Nat → ByteArray → List (S137) → List (S137) → Bool → List (S137) → List (S193) → Int → Int → Int → Bool → List (S137) → Option ((List (S193)))
  | 0, _, _, _, _, _, _, _, _, _, _, _ => none
  | k + 1, x0, x1, x2, x3, x9, x10, x11, x12, x13, x14, x15 => (glossatorref4_InsertedAt.f k x15 x12).bind fun t189 => (glossatorref4_MergeEdits.l2 k x0 x1 x2 x3 x9 x10 x11 x12 x13 x14 t189 0)
def glossatorref4_MergeEdits.l2 : Nat → ByteArray → List (S137) → List (S137) → Bool → List (S137) → List (S193) → Int → Int → Int → Bool → ByteArray → Int → Option ((List (S193)))
  | 0, _, _, _, _, _, _, _, _, _, _, _, _ => none
  | k + 1, x0, x1, x2, x3, x9, x10, x11, x12, x13, x14, x16, x17 => if x17 < (x16.size : Int) then (if (x14 == x3) = true then (if 0 ≤ x17 then (if x10.length < 8796093022208 then (glossatorref4_MergeEdits.l2 k x0 x1 x2 x3 x9 (x10 ++ [(⟨bt x16 x17, x11⟩ : S193)]) (wrap64 (x11 + 1)) x12 x13 x14 x16 (wrap64 (x17 + 1))) else (none)) else (none)) else (if 0 ≤ x17 then (if x10.length < 8796093022208 then (glossatorref4_MergeEdits.l2 k x0 x1 x2 x3 x9 (x10 ++ [(⟨bt x16 x17, (-1)⟩ : S193)]) x11 x12 x13 x14 x16 (wrap64 (x17 + 1))) else (none)) else (none))) else (glossatorref4_MergeEdits.l1 k x0 x1 x2 x3 x9 x10 x11 x12 (wrap64 (x13 + 1)))
def glossatorref4_MergeEdits.j5 : Nat → ByteArray → List (S137) → List (S137) → Bool → List (S137) → List (S193) → Int → Int → Bool → Option ((List (S193)))
  | 0, _, _, _, _, _, _, _, _, _ => none
  | k + 1, x0, x1, x2, x3, x9, x10, x11, x12, x78 => if x78 = true then (if 0 ≤ x12 then (if x12 < (x0.size : Int) then (if x10.length < 8796093022208 then ((some (x10 ++ [(⟨bt x0 x12, x11⟩ : S193)] : List (S193))).bind fun y198 => ((glossatorref4_DeletesByte.f k x9 x12).bind fun t201 => (if t201 = true then (glossatorref4_MergeEdits.l0 k x0 x1 x2 x3 x9 y198 x11 (wrap64 (x12 + 1))) else (glossatorref4_MergeEdits.l0 k x0 x1 x2 x3 x9 y198 (wrap64 (x11 + 1)) (wrap64 (x12 + 1)))))) else (none)) else (none)) else (none)) else ((glossatorref4_DeletesByte.f k x9 x12).bind fun t202 => (if t202 = true then (glossatorref4_MergeEdits.l0 k x0 x1 x2 x3 x9 x10 x11 (wrap64 (x12 + 1))) else (glossatorref4_MergeEdits.l0 k x0 x1 x2 x3 x9 x10 (wrap64 (x11 + 1)) (wrap64 (x12 + 1)))))
end
def glossatorref4_MergeEdits.f (k : Nat) (a0 : ByteArray) (l1 : List (S137)) (l2 : List (S137)) (a3 : Bool) : Option ((List (S193))) := if a3 = true then (glossatorref4_MergeEdits.j0 k a0 l1 l2 a3 l1) else (glossatorref4_MergeEdits.j0 k a0 l1 l2 a3 l2)
theorem glossatorref4_MergeEdits.mono_l : ∀ k, (∀ y0 y1 y2 y3 y4, LeO (glossatorref4_MergeEdits.j0 k y0 y1 y2 y3 y4) (glossatorref4_MergeEdits.j0 (k + 1) y0 y1 y2 y3 y4)) ∧ (∀ y0 y1 y2 y3 y4 y5 y6 y7, LeO (glossatorref4_MergeEdits.l0 k y0 y1 y2 y3 y4 y5 y6 y7) (glossatorref4_MergeEdits.l0 (k + 1) y0 y1 y2 y3 y4 y5 y6 y7)) ∧ (∀ y0 y1 y2 y3 y4 y5 y6 y7 y8, LeO (glossatorref4_MergeEdits.l1 k y0 y1 y2 y3 y4 y5 y6 y7 y8) (glossatorref4_MergeEdits.l1 (k + 1) y0 y1 y2 y3 y4 y5 y6 y7 y8)) ∧ (∀ y0 y1 y2 y3 y4 y5 y6 y7 y8 y9 y10, LeO (glossatorref4_MergeEdits.j3 k y0 y1 y2 y3 y4 y5 y6 y7 y8 y9 y10) (glossatorref4_MergeEdits.j3 (k + 1) y0 y1 y2 y3 y4 y5 y6 y7 y8 y9 y10)) ∧ (∀ y0 y1 y2 y3 y4 y5 y6 y7 y8 y9 y10 y11, LeO (glossatorref4_MergeEdits.l2 k y0 y1 y2 y3 y4 y5 y6 y7 y8 y9 y10 y11) (glossatorref4_MergeEdits.l2 (k + 1) y0 y1 y2 y3 y4 y5 y6 y7 y8 y9 y10 y11)) ∧ (∀ y0 y1 y2 y3 y4 y5 y6 y7 y8, LeO (glossatorref4_MergeEdits.j5 k y0 y1 y2 y3 y4 y5 y6 y7 y8) (glossatorref4_MergeEdits.j5 (k + 1) y0 y1 y2 y3 y4 y5 y6 y7 y8))
  | 0 => ⟨fun _ _ _ _ _ r h => by simp [glossatorref4_MergeEdits.j0] at h, fun _ _ _ _ _ _ _ _ r h => by simp [glossatorref4_MergeEdits.l0] at h, fun _ _ _ _ _ _ _ _ _ r h => by simp [glossatorref4_MergeEdits.l1] at h, fun _ _ _ _ _ _ _ _ _ _ _ r h => by simp [glossatorref4_MergeEdits.j3] at h, fun _ _ _ _ _ _ _ _ _ _ _ _ r h => by simp [glossatorref4_MergeEdits.l2] at h, fun _ _ _ _ _ _ _ _ _ r h => by simp [glossatorref4_MergeEdits.j5] at h⟩
  | k + 1 => by
    obtain ⟨ih0, ih1, ih2, ih3, ih4, ih5⟩ := glossatorref4_MergeEdits.mono_l k
    refine ⟨?_, ?_, ?_, ?_, ?_, ?_⟩
    · intro y0 y1 y2 y3 y4
      unfold glossatorref4_MergeEdits.j0
      repeat' first
      | (with_reducible exact ih0 _ _ _ _ _)
      | (with_reducible exact ih1 _ _ _ _ _ _ _ _)
      | (with_reducible exact ih2 _ _ _ _ _ _ _ _ _)
      | (with_reducible exact ih3 _ _ _ _ _ _ _ _ _ _ _)
      | (with_reducible exact ih4 _ _ _ _ _ _ _ _ _ _ _ _)
      | (with_reducible exact ih5 _ _ _ _ _ _ _ _ _)
      | (with_reducible exact glossatorref4_DeletesByte.mono _ _ _)
      | (with_reducible exact glossatorref4_InsertedAt.mono _ _ _)
      | (with_reducible exact LeO.refl _)
      | (with_reducible exact LeO.none _)
      | (with_reducible refine LeO.ite ?_ ?_)
      | (with_reducible refine LeO.bind ?_ (fun _ => ?_))
      | exact ih0 _ _ _ _ _
      | exact ih1 _ _ _ _ _ _ _ _
      | exact ih2 _ _ _ _ _ _ _ _ _
      | exact ih3 _ _ _ _ _ _ _ _ _ _ _
      | exact ih4 _ _ _ _ _ _ _ _ _ _ _ _
      | exact ih5 _ _ _ _ _ _ _ _ _
      | exact glossatorref4_DeletesByte.mono _ _ _
      | exact glossatorref4_InsertedAt.mono _ _ _
      | exact LeO.none _
      | refine LeO.ite ?_ ?_
      | refine LeO.bind ?_ (fun _ => ?_)
    · intro y0 y1 y2 y3 y4 y5 y6 y7
      unfold glossatorref4_MergeEdits.l0
      repeat' first
      | (with_reducible exact ih0 _ _ _ _ _)
      | (with_reducible exact ih1 _ _ _ _ _ _ _ _)
      | (with_reducible exact ih2 _ _ _ _ _ _ _ _ _)
      | (with_reducible exact ih3 _ _ _ _ _ _ _ _ _ _ _)
      | (with_reducible exact ih4 _ _ _ _ _ _ _ _ _ _ _ _)
      | (with_reducible exact ih5 _ _ _ _ _ _ _ _ _)
      | (with_reducible exact glossatorref4_DeletesByte.mono _ _ _)
      | (with_reducible exact glossatorref4_InsertedAt.mono _ _ _)
      | (with_reducible exact LeO.refl _)
      | (with_reducible exact LeO.none _)
      | (with_reducible refine LeO.ite ?_ ?_)
      | (with_reducible refine LeO.bind ?_ (fun _ => ?_))
      | exact ih0 _ _ _ _ _
      | exact ih1 _ _ _ _ _ _ _ _
      | exact ih2 _ _ _ _ _ _ _ _ _
      | exact ih3 _ _ _ _ _ _ _ _ _ _ _
      | exact ih4 _ _ _ _ _ _ _ _ _ _ _ _
      | exact ih5 _ _ _ _ _ _ _ _ _
      | exact glossatorref4_DeletesByte.mono _ _ _
      | exact glossatorref4_InsertedAt.mono _ _ _
      | exact LeO.none _
      | refine LeO.ite ?_ ?_
      | refine LeO.bind ?_ (fun _ => ?_)
    · intro y0 y1 y2 y3 y4 y5 y6 y7 y8
      unfold glossatorref4_MergeEdits.l1
      repeat' first
      | (with_reducible exact ih0 _ _ _ _ _)
      | (with_reducible exact ih1 _ _ _ _ _ _ _ _)
      | (with_reducible exact ih2 _ _ _ _ _ _ _ _ _)
      | (with_reducible exact ih3 _ _ _ _ _ _ _ _ _ _ _)
      | (with_reducible exact ih4 _ _ _ _ _ _ _ _ _ _ _ _)
      | (with_reducible exact ih5 _ _ _ _ _ _ _ _ _)
      | (with_reducible exact glossatorref4_DeletesByte.mono _ _ _)
      | (with_reducible exact glossatorref4_InsertedAt.mono _ _ _)
      | (with_reducible exact LeO.refl _)
      | (with_reducible exact LeO.none _)
      | (with_reducible refine LeO.ite ?_ ?_)
      | (with_reducible refine LeO.bind ?_ (fun _ => ?_))
      | exact ih0 _ _ _ _ _
      | exact ih1 _ _ _ _ _ _ _ _
      | exact ih2 _ _ _ _ _ _ _ _ _
      | exact ih3 _ _ _ _ _ _ _ _ _ _ _
      | exact ih4 _ _ _ _ _ _ _ _ _ _ _ _
      | exact ih5 _ _ _ _ _ _ _ _ _
      | exact glossatorref4_DeletesByte.mono _ _ _
      | exact glossatorref4_InsertedAt.mono _ _ _
      | exact LeO.none _
      | refine LeO.ite ?_ ?_
      | refine LeO.bind ?_ (fun _ => ?_)
    · intro y0 y1 y2 y3 y4 y5 y6 y7 y8 y9 y10
      unfold glossatorref4_MergeEdits.j3
      repeat' first
      | (with_reducible exact ih0 _ _ _ _ _)
      | (with_reducible exact ih1 _ _ _ _ _ _ _ _)
      | (with_reducible exact ih2 _ _ _ _ _ _ _ _ _)
      | (with_reducible exact ih3 _ _ _ _ _ _ _ _ _ _ _)
      | (with_reducible exact ih4 _ _ _ _ _ _ _ _ _ _ _ _)
      | (with_reducible exact ih5 _ _ _ _ _ _ _ _ _)
      | (with_reducible exact glossatorref4_DeletesByte.mono _ _ _)
      | (with_reducible exact glossatorref4_InsertedAt.mono _ _ _)
      | (with_reducible exact LeO.refl _)
      | (with_reducible exact LeO.none _)
      | (with_reducible refine LeO.ite ?_ ?_)
      | (with_reducible refine LeO.bind ?_ (fun _ => ?_))
      | exact ih0 _ _ _ _ _
      | exact ih1 _ _ _ _ _ _ _ _
      | exact ih2 _ _ _ _ _ _ _ _ _
      | exact ih3 _ _ _ _ _ _ _ _ _ _ _
      | exact ih4 _ _ _ _ _ _ _ _ _ _ _ _
      | exact ih5 _ _ _ _ _ _ _ _ _
      | exact glossatorref4_DeletesByte.mono _ _ _
      | exact glossatorref4_InsertedAt.mono _ _ _
      | exact LeO.none _
      | refine LeO.ite ?_ ?_
      | refine LeO.bind ?_ (fun _ => ?_)
    · intro y0 y1 y2 y3 y4 y5 y6 y7 y8 y9 y10 y11
      unfold glossatorref4_MergeEdits.l2
      repeat' first
      | (with_reducible exact ih0 _ _ _ _ _)
      | (with_reducible exact ih1 _ _ _ _ _ _ _ _)
      | (with_reducible exact ih2 _ _ _ _ _ _ _ _ _)
      | (with_reducible exact ih3 _ _ _ _ _ _ _ _ _ _ _)
      | (with_reducible exact ih4 _ _ _ _ _ _ _ _ _ _ _ _)
      | (with_reducible exact ih5 _ _ _ _ _ _ _ _ _)
      | (with_reducible exact glossatorref4_DeletesByte.mono _ _ _)
      | (with_reducible exact glossatorref4_InsertedAt.mono _ _ _)
      | (with_reducible exact LeO.refl _)
      | (with_reducible exact LeO.none _)
      | (with_reducible refine LeO.ite ?_ ?_)
      | (with_reducible refine LeO.bind ?_ (fun _ => ?_))
      | exact ih0 _ _ _ _ _
      | exact ih1 _ _ _ _ _ _ _ _
      | exact ih2 _ _ _ _ _ _ _ _ _
      | exact ih3 _ _ _ _ _ _ _ _ _ _ _
      | exact ih4 _ _ _ _ _ _ _ _ _ _ _ _
      | exact ih5 _ _ _ _ _ _ _ _ _
      | exact glossatorref4_DeletesByte.mono _ _ _
      | exact glossatorref4_InsertedAt.mono _ _ _
      | exact LeO.none _
      | refine LeO.ite ?_ ?_
      | refine LeO.bind ?_ (fun _ => ?_)
    · intro y0 y1 y2 y3 y4 y5 y6 y7 y8
      unfold glossatorref4_MergeEdits.j5
      repeat' first
      | (with_reducible exact ih0 _ _ _ _ _)
      | (with_reducible exact ih1 _ _ _ _ _ _ _ _)
      | (with_reducible exact ih2 _ _ _ _ _ _ _ _ _)
      | (with_reducible exact ih3 _ _ _ _ _ _ _ _ _ _ _)
      | (with_reducible exact ih4 _ _ _ _ _ _ _ _ _ _ _ _)
      | (with_reducible exact ih5 _ _ _ _ _ _ _ _ _)
      | (with_reducible exact glossatorref4_DeletesByte.mono _ _ _)
      | (with_reducible exact glossatorref4_InsertedAt.mono _ _ _)
      | (with_reducible exact LeO.refl _)
      | (with_reducible exact LeO.none _)
      | (with_reducible refine LeO.ite ?_ ?_)
      | (with_reducible refine LeO.bind ?_ (fun _ => ?_))
      | exact ih0 _ _ _ _ _
      | exact ih1 _ _ _ _ _ _ _ _
      | exact ih2 _ _ _ _ _ _ _ _ _
      | exact ih3 _ _ _ _ _ _ _ _ _ _ _
      | exact ih4 _ _ _ _ _ _ _ _ _ _ _ _
      | exact ih5 _ _ _ _ _ _ _ _ _
      | exact glossatorref4_DeletesByte.mono _ _ _
      | exact glossatorref4_InsertedAt.mono _ _ _
      | exact LeO.none _
      | refine LeO.ite ?_ ?_
      | refine LeO.bind ?_ (fun _ => ?_)
theorem glossatorref4_MergeEdits.mono : ∀ a0 a1 a2 a3 k, LeO (glossatorref4_MergeEdits.f k a0 a1 a2 a3) (glossatorref4_MergeEdits.f (k + 1) a0 a1 a2 a3) := by
  intro a0 a1 a2 a3 k
  obtain ⟨ih0, ih1, ih2, ih3, ih4, ih5⟩ := glossatorref4_MergeEdits.mono_l k
  unfold glossatorref4_MergeEdits.f
  repeat' first
      | (with_reducible exact ih0 _ _ _ _ _)
      | (with_reducible exact ih1 _ _ _ _ _ _ _ _)
      | (with_reducible exact ih2 _ _ _ _ _ _ _ _ _)
      | (with_reducible exact ih3 _ _ _ _ _ _ _ _ _ _ _)
      | (with_reducible exact ih4 _ _ _ _ _ _ _ _ _ _ _ _)
      | (with_reducible exact ih5 _ _ _ _ _ _ _ _ _)
      | (with_reducible exact glossatorref4_DeletesByte.mono _ _ _)
      | (with_reducible exact glossatorref4_InsertedAt.mono _ _ _)
      | (with_reducible exact LeO.refl _)
      | (with_reducible exact LeO.none _)
      | (with_reducible refine LeO.ite ?_ ?_)
      | (with_reducible refine LeO.bind ?_ (fun _ => ?_))
      | exact ih0 _ _ _ _ _
      | exact ih1 _ _ _ _ _ _ _ _
      | exact ih2 _ _ _ _ _ _ _ _ _
      | exact ih3 _ _ _ _ _ _ _ _ _ _ _
      | exact ih4 _ _ _ _ _ _ _ _ _ _ _ _
      | exact ih5 _ _ _ _ _ _ _ _ _
      | exact glossatorref4_DeletesByte.mono _ _ _
      | exact glossatorref4_InsertedAt.mono _ _ _
      | exact LeO.none _
      | refine LeO.ite ?_ ?_
      | refine LeO.bind ?_ (fun _ => ?_)
set_option maxHeartbeats 8000000 in
set_option maxRecDepth 100000 in
theorem glossatorref4_MergeEdits.calls (k : Nat) (a0 : ByteArray) (P1_ : Nat → Prop) (A1 : Option Addr) (c1 : Nat) (l1 : List (S137)) (P2_ : Nat → Prop) (A2 : Option Addr) (c2 : Nat) (l2 : List (S137)) (a3 : Bool) (r : List (S193)) (w : World) (hs1 : Kd.V k137 137 w w.heap.size (fun k_ => P1_ k_) (.slice A1 l1.length c1) l1) (hs2 : Kd.V k137 137 w w.heap.size (fun k_ => P2_ k_) (.slice A2 l2.length c2) l2) (h : glossatorref4_MergeEdits.f k a0 l1 l2 a3 = some r) :
    Calls Try.prog 73 #[.string a0, .slice A1 l1.length c1, .slice A2 l2.length c2, .bool a3] w fun e w' => ∃ v0_ : Value, e = .returned (v0_) ∧ Kd.R k193 193 w' w.heap.size (fun k_ => (w.heap.size ≤ k_)) v0_ r ∧ Below w.heap.size w w' := by
  have hu193 := Try.underlying193
  have HO1 := Aside0.mk (show Kd.V k137 137 w w.heap.size (fun k_ => ((P1_ k_ ∨ P2_ k_) ∨ w.heap.size ≤ k_)) (.slice A1 l1.length c1) l1 from Kd.V_mono hs1 (fun k_ hk => .inl (.inl hk)))
  have HO2 := Aside0.mk (show Kd.V k137 137 w w.heap.size (fun k_ => ((P1_ k_ ∨ P2_ k_) ∨ w.heap.size ≤ k_)) (.slice A2 l2.length c2) l2 from Kd.V_mono hs2 (fun k_ hk => .inl (.inr hk)))
  have HB := Aside0.mk (Below.refl w.heap.size w)
  have H : (if a3 = true then (glossatorref4_MergeEdits.j0 k a0 l1 l2 a3 l1) else (glossatorref4_MergeEdits.j0 k a0 l1 l2 a3 l2)) = some r := h
  clear h
  have HC5 := Aside0.mk H
  clear H
  go_enter Try.func73, Try.ntmps73
  go_upto_if 19 with (fail)
  go_cut [9] (fun v9 wc => ∃ (kq : Nat) (x9_4 : List (S137)), Aside0 (glossatorref4_MergeEdits.j0 kq a0 l1 l2 a3 x9_4 = some r) ∧ Aside0 (kq ≤ k) ∧ Aside0 (Kd.V k137 137 wc w.heap.size (fun k_ => ((P1_ k_ ∨ P2_ k_) ∨ w.heap.size ≤ k_)) (.slice A1 l1.length c1) l1) ∧ Aside0 (Kd.V k137 137 wc w.heap.size (fun k_ => ((P1_ k_ ∨ P2_ k_) ∨ w.heap.size ≤ k_)) (.slice A2 l2.length c2) l2) ∧ Aside0 (Kd.V k137 137 wc w.heap.size (fun k_ => ((P1_ k_ ∨ P2_ k_) ∨ w.heap.size ≤ k_)) v9 x9_4) ∧ Aside0 (Below w.heap.size w wc))
  case first =>
    have H := HC5.out
    clear HC5
    by_cases c6 : a3 = true
    · subst c6
      have H1 : (glossatorref4_MergeEdits.j0 k a0 l1 l2 true l1) = some r := by rw [if_pos rfl] at H; exact H
      clear H
      have H := H1
      clear H1
      have H' := Aside0.mk H
      clear H
      go_wp2
      go_meet
      case rel => exact ⟨_, (l1), H', ⟨by first | omega | exact Nat.le_refl _⟩, ⟨by (with_reducible repeat (first | apply Kd.V_alloc | apply Kd.V_drewN | apply Kd.V_drew)); exact HO1.out⟩, ⟨by (with_reducible repeat (first | apply Kd.V_alloc | apply Kd.V_drewN | apply Kd.V_drew)); exact HO2.out⟩, ⟨by (with_reducible repeat (first | apply Kd.V_alloc | apply Kd.V_drewN | apply Kd.V_drew)); exact HO1.out⟩, ⟨by repeat (first | (with_reducible first | exact HB.out | apply below_alloc | apply pw_below_drewN | apply below_drew1) | exact HB.out)⟩⟩
    · replace c6 := Bool.eq_false_iff.mpr c6
      subst c6
      have H1 : (glossatorref4_MergeEdits.j0 k a0 l1 l2 false l2) = some r := by rw [if_neg (show ¬ (false = true) by decide)] at H; exact H
      clear H
      have H := H1
      clear H1
      have H' := Aside0.mk H
      clear H
      go_wp2
      go_meet
      case rel => exact ⟨_, (l2), H', ⟨by first | omega | exact Nat.le_refl _⟩, ⟨by (with_reducible repeat (first | apply Kd.V_alloc | apply Kd.V_drewN | apply Kd.V_drew)); exact HO1.out⟩, ⟨by (with_reducible repeat (first | apply Kd.V_alloc | apply Kd.V_drewN | apply Kd.V_drew)); exact HO2.out⟩, ⟨by (with_reducible repeat (first | apply Kd.V_alloc | apply Kd.V_drewN | apply Kd.V_drew)); exact HO2.out⟩, ⟨by repeat (first | (with_reducible first | exact HB.out | apply below_alloc | apply pw_below_drewN | apply below_drew1) | exact HB.out)⟩⟩
  case rest =>
    clear HC5
    try clear c1
    try clear c2
    try clear p2
    try clear c6
    obtain ⟨kq, x9_4, HA, HJ4, HO_1, HO_2, HO_9, HB⟩ := hcut
    cases kq with
    | zero => exact absurd HA.out (by simp [glossatorref4_MergeEdits.j0])
    | succ kj4 =>
      have H := HA.out
      clear HA
      simp only [glossatorref4_MergeEdits.j0] at H
      have H' := Aside0.mk H
      clear H
      go_wp2
      go_loopg [10, 11, 12] kj4 (fun kq v10 v11 v12 w' => ∃ (x10_2 : List (S193)) (x11_2 : Int) (x12_2 : Int), v11 = .int .i64 x11_2 ∧ v12 = .int .i64 x12_2 ∧ Aside0 (glossatorref4_MergeEdits.l0 kq a0 l1 l2 a3 x9_4 x10_2 x11_2 x12_2 = some r) ∧ Aside0 (kq ≤ kj4) ∧ Aside0 (Kd.V k137 137 w' w.heap.size (fun k_ => ((P1_ k_ ∨ P2_ k_) ∨ w.heap.size ≤ k_) ∧ some k_ ≠ (v10 : Value).ownBlock) (.slice A1 l1.length c1) l1) ∧ Aside0 (Kd.V k137 137 w' w.heap.size (fun k_ => ((P1_ k_ ∨ P2_ k_) ∨ w.heap.size ≤ k_) ∧ some k_ ≠ (v10 : Value).ownBlock) (.slice A2 l2.length c2) l2) ∧ Aside0 (Kd.V k137 137 w' w.heap.size (fun k_ => ((P1_ k_ ∨ P2_ k_) ∨ w.heap.size ≤ k_) ∧ some k_ ≠ (v10 : Value).ownBlock) u9 x9_4) ∧ Aside0 (Kd.R k193 193 w' w.heap.size (fun k_ => (w.heap.size ≤ k_)) v10 x10_2) ∧ Aside0 (Below w.heap.size w w'))
      case atStart => exact ⟨(([] : List (S193))), (0), (0), (by first | rfl | (simp; done) | (simp [*]; done) | (simp [isEmpty_bne]; done)), (by first | rfl | (simp; done) | (simp [*]; done) | (simp [isEmpty_bne]; done)), H', ⟨Nat.le_refl _⟩, ⟨by (with_reducible repeat (first | apply Kd.V_alloc | apply Kd.V_drewN | apply Kd.V_drew)); exact Kd.V_mono HO_1.out (fun _ hk => ⟨hk, (by simp [Value.ownBlock])⟩)⟩, ⟨by (with_reducible repeat (first | apply Kd.V_alloc | apply Kd.V_drewN | apply Kd.V_drew)); exact Kd.V_mono HO_2.out (fun _ hk => ⟨hk, (by simp [Value.ownBlock])⟩)⟩, ⟨by (with_reducible repeat (first | apply Kd.V_alloc | apply Kd.V_drewN | apply Kd.V_drew)); exact Kd.V_mono HO_9.out (fun _ hk => ⟨hk, (by simp [Value.ownBlock])⟩)⟩, ⟨by first | exact Kd.R_nil _ _ _ _ _ | exact Kd.N_nil _ _ _ _ _ | exact Kd.V_nil _ _ _ _ _ | exact Kd.Q_nil _ _ _ _ _ | exact Kd.S_nil _ _ _ _ _⟩, ⟨by repeat (first | (with_reducible first | exact HB.out | apply below_alloc | apply pw_below_drewN | apply below_drew1) | exact HB.out)⟩⟩
      case round =>
        clear H'
        try clear c1
        try clear c2
        try clear p2
        try clear c6
        try clear p2
        obtain ⟨x10_2, x11_2, x12_2, rfl, rfl, HA, HK2, HO_1, HO_2, HO_9, HO_10, HB⟩ := hrel
        cases gk with
        | zero => exact absurd HA.out (by simp [glossatorref4_MergeEdits.l0])
        | succ k2 =>
          have H := HA.out
          clear HA
          simp only [glossatorref4_MergeEdits.l0] at H
          by_cases c7 : x12_2 ≤ (a0.size : Int)
          · rw [if_pos c7] at H
            have c7b0 : decide (x12_2 ≤ (a0.size : Int)) = true := decide_eq_true c7
            clear c7
            have H' := Aside0.mk H
            clear H
            go_wp2
            go_loopg [10, 11, 13] k2 (fun kq v10 v11 v13 w' => ∃ (x10_3 : List (S193)) (x11_3 : Int) (x13_3 : Int), v11 = .int .i64 x11_3 ∧ v13 = .int .i64 x13_3 ∧ Aside0 (glossatorref4_MergeEdits.l1 kq a0 l1 l2 a3 x9_4 x10_3 x11_3 x12_2 x13_3 = some r) ∧ Aside0 (kq ≤ k2) ∧ Aside0 (Kd.V k137 137 w' w.heap.size (fun k_ => ((P1_ k_ ∨ P2_ k_) ∨ w.heap.size ≤ k_) ∧ some k_ ≠ (v10 : Value).ownBlock) (.slice A1 l1.length c1) l1) ∧ Aside0 (Kd.V k137 137 w' w.heap.size (fun k_ => ((P1_ k_ ∨ P2_ k_) ∨ w.heap.size ≤ k_) ∧ some k_ ≠ (v10 : Value).ownBlock) (.slice A2 l2.length c2) l2) ∧ Aside0 (Kd.V k137 137 w' w.heap.size (fun k_ => ((P1_ k_ ∨ P2_ k_) ∨ w.heap.size ≤ k_) ∧ some k_ ≠ (v10 : Value).ownBlock) u9 x9_4) ∧ Aside0 (Kd.R k193 193 w' w.heap.size (fun k_ => (w.heap.size ≤ k_)) v10 x10_3) ∧ Aside0 (Below w.heap.size w w'))
            case atStart => exact ⟨(x10_2), (x11_2), (0), (by first | rfl | (simp; done) | (simp [*]; done) | (simp [isEmpty_bne]; done)), (by first | rfl | (simp; done) | (simp [*]; done) | (simp [isEmpty_bne]; done)), H', ⟨Nat.le_refl _⟩, ⟨by (with_reducible repeat (first | apply Kd.V_alloc | apply Kd.V_drewN | apply Kd.V_drew)); exact HO_1.out⟩, ⟨by (with_reducible repeat (first | apply Kd.V_alloc | apply Kd.V_drewN | apply Kd.V_drew)); exact HO_2.out⟩, ⟨by (with_reducible repeat (first | apply Kd.V_alloc | apply Kd.V_drewN | apply Kd.V_drew)); exact HO_9.out⟩, ⟨by (with_reducible repeat (first | apply Kd.R_alloc | apply Kd.R_drewN | apply Kd.R_drew)); exact HO_10.out⟩, ⟨by repeat (first | (with_reducible first | exact HB.out | apply below_alloc | apply pw_below_drewN | apply below_drew1) | exact HB.out)⟩⟩
            case round =>
              clear H'
              try clear c1
              try clear c2
              try clear p2
              try clear c6
              try clear c7
              try clear c7b0
              try clear p2
              obtain ⟨x10_3, x11_3, x13_3, rfl, rfl, HA, HK3, HO_1, HO_2, HO_9, HO_10, HB⟩ := hrel
              cases gk with
              | zero => exact absurd HA.out (by simp [glossatorref4_MergeEdits.l1])
              | succ k3 =>
                have H := HA.out
                clear HA
                simp only [glossatorref4_MergeEdits.l1] at H
                by_cases c8 : x13_3 < 2
                · rw [if_pos c8] at H
                  have c8b0 : decide (x13_3 < 2) = true := decide_eq_true c8
                  clear c8
                  have HC9 := Aside0.mk H
                  clear H
                  go_upto_if 34 with (fail)
                  go_cut [14, 15] (fun v14 v15 wc => ∃ (kq : Nat) (x15_8 : List (S137)), v14 = .bool (x13_3 == 0) ∧ Aside0 (glossatorref4_MergeEdits.j3 kq a0 l1 l2 a3 x9_4 x10_3 x11_3 x12_2 x13_3 (x13_3 == 0) x15_8 = some r) ∧ Aside0 (kq ≤ k3) ∧ Aside0 (Kd.V k137 137 wc w.heap.size (fun k_ => ((P1_ k_ ∨ P2_ k_) ∨ w.heap.size ≤ k_) ∧ some k_ ≠ (u10 : Value).ownBlock) (.slice A1 l1.length c1) l1) ∧ Aside0 (Kd.V k137 137 wc w.heap.size (fun k_ => ((P1_ k_ ∨ P2_ k_) ∨ w.heap.size ≤ k_) ∧ some k_ ≠ (u10 : Value).ownBlock) (.slice A2 l2.length c2) l2) ∧ Aside0 (Kd.V k137 137 wc w.heap.size (fun k_ => ((P1_ k_ ∨ P2_ k_) ∨ w.heap.size ≤ k_) ∧ some k_ ≠ (u10 : Value).ownBlock) u9 x9_4) ∧ Aside0 (Kd.R k193 193 wc w.heap.size (fun k_ => (w.heap.size ≤ k_)) u10 x10_3) ∧ Aside0 (Kd.V k137 137 wc w.heap.size (fun k_ => ((P1_ k_ ∨ P2_ k_) ∨ w.heap.size ≤ k_) ∧ some k_ ≠ (u10 : Value).ownBlock) v15 x15_8) ∧ Aside0 (Below w.heap.size w wc))
                  case first =>
                    have H := HC9.out
                    clear HC9
                    by_cases c10 : x13_3 = 0
                    · rw [if_pos c10] at H
                      have c10b0 : (x13_3 == 0) = true := beq_iff_eq.mpr c10
                      have c10b1 : (x13_3 != 0) = false := bne_eq_false_iff_eq.mpr c10
                      clear c10
                      (first | rw [c10b0] | (simp only [i64_w, i32_w]; rw [c10b0]) | skip)
                      skip
                      have H' := Aside0.mk H
                      clear H
                      go_wp2
                      go_meet
                      case rel => exact ⟨_, (l1), (by rw [c10b0]), H', ⟨by have := HJ4.out; have := HK2.out; have := HK3.out; first | omega | exact Nat.le_refl _⟩, ⟨by (with_reducible repeat (first | apply Kd.V_alloc | apply Kd.V_drewN | apply Kd.V_drew)); exact HO_1.out⟩, ⟨by (with_reducible repeat (first | apply Kd.V_alloc | apply Kd.V_drewN | apply Kd.V_drew)); exact HO_2.out⟩, ⟨by (with_reducible repeat (first | apply Kd.V_alloc | apply Kd.V_drewN | apply Kd.V_drew)); exact HO_9.out⟩, ⟨by (with_reducible repeat (first | apply Kd.R_alloc | apply Kd.R_drewN | apply Kd.R_drew)); exact HO_10.out⟩, ⟨by (with_reducible repeat (first | apply Kd.V_alloc | apply Kd.V_drewN | apply Kd.V_drew)); exact HO_1.out⟩, ⟨by repeat (first | (with_reducible first | exact HB.out | apply below_alloc | apply pw_below_drewN | apply below_drew1) | exact HB.out)⟩⟩
                    · rw [if_neg c10] at H
                      have c10b0 : (x13_3 == 0) = false := beq_eq_false_iff_ne.mpr c10
                      have c10b1 : (x13_3 != 0) = true := bne_iff_ne.mpr c10
                      (first | rw [c10b0] | (simp only [i64_w, i32_w]; rw [c10b0]) | skip)
                      skip
                      have H' := Aside0.mk H
                      clear H
                      go_wp2
                      go_meet
                      case rel => exact ⟨_, (l2), (by rw [c10b0]), H', ⟨by have := HJ4.out; have := HK2.out; have := HK3.out; first | omega | exact Nat.le_refl _⟩, ⟨by (with_reducible repeat (first | apply Kd.V_alloc | apply Kd.V_drewN | apply Kd.V_drew)); exact HO_1.out⟩, ⟨by (with_reducible repeat (first | apply Kd.V_alloc | apply Kd.V_drewN | apply Kd.V_drew)); exact HO_2.out⟩, ⟨by (with_reducible repeat (first | apply Kd.V_alloc | apply Kd.V_drewN | apply Kd.V_drew)); exact HO_9.out⟩, ⟨by (with_reducible repeat (first | apply Kd.R_alloc | apply Kd.R_drewN | apply Kd.R_drew)); exact HO_10.out⟩, ⟨by (with_reducible repeat (first | apply Kd.V_alloc | apply Kd.V_drewN | apply Kd.V_drew)); exact HO_2.out⟩, ⟨by repeat (first | (with_reducible first | exact HB.out | apply below_alloc | apply pw_below_drewN | apply below_drew1) | exact HB.out)⟩⟩
                  case rest =>
                    clear HC9
                    try clear c1
                    try clear c2
                    try clear p2
                    try clear c6
                    try clear c7
                    try clear c7b0
                    try clear c8
                    try clear c8b0
                    try clear c10
                    try clear c10b0
                    try clear c10b1
                    try clear p2
                    obtain ⟨kq, x15_8, rfl, HA, HJ8, HO_1, HO_2, HO_9, HO_10, HO_15, HB⟩ := hcut
                    cases kq with
                    | zero => exact absurd HA.out (by simp [glossatorref4_MergeEdits.j3])
                    | succ kj8 =>
                      have H := HA.out
                      clear HA
                      simp only [glossatorref4_MergeEdits.j3] at H
                      replace H := Option.bind_eq_some_iff.mp H
                      obtain ⟨t189, A110, H⟩ := H
                      replace H : (glossatorref4_MergeEdits.l2 kj8 a0 l1 l2 a3 x9_4 x10_3 x11_3 x12_2 x13_3 (x13_3 == 0) t189 0) = some r := H
                      have A11 := Aside0.mk A110
                      clear A110
                      have H' := Aside0.mk H
                      clear H
                      obtain ⟨Ao12, co12, eo12⟩ := Kd.V_slice HO_15.out
                      subst eo12
                      go_wp2_with (first | ((with_reducible refine gate_callee (f := 121) rfl ?_); refine goesL_ (some 38) rfl rfl Try.func121 (by kernel_rfl) rfl #[.slice Ao12 x15_8.length co12, .int .i64 x12_2] rfl (by (try simp only [List.map_toArray, List.map_cons, List.map_nil]); first | done | rfl | (simp only [List.length_drop, List.length_take]; rfl)) ?_; (with_reducible refine (glossatorref4_InsertedAt.calls kj8 _ _ x15_8 x12_2 t189 _ ?side1 ?side2 A11.out).mono ?_); (case side1 => repeat (first | exact (Kd.V_reads' HO_15.out).2.2 | (with_reducible refine Kd.C_alloc ?_ _) | (with_reducible refine Kd.C_drewN ?_ _) | (with_reducible refine Kd.C_drew ?_))); (case side2 => exact (Kd.V_reads' HO_15.out).2.1); rintro e w' ⟨rfl, ⟨nd, rfl⟩⟩; refine ⟨_, rfl, ?_⟩))
                      go_loopg [10, 11, 17] kj8 (fun kq v10 v11 v17 w' => ∃ (x10_5 : List (S193)) (x11_5 : Int) (x17_5 : Int), v11 = .int .i64 x11_5 ∧ v17 = .int .i64 x17_5 ∧ Aside0 (glossatorref4_MergeEdits.l2 kq a0 l1 l2 a3 x9_4 x10_5 x11_5 x12_2 x13_3 (x13_3 == 0) t189 x17_5 = some r) ∧ Aside0 (kq ≤ kj8) ∧ Aside0 (Kd.V k137 137 w' w.heap.size (fun k_ => ((P1_ k_ ∨ P2_ k_) ∨ w.heap.size ≤ k_) ∧ some k_ ≠ (v10 : Value).ownBlock) (.slice A1 l1.length c1) l1) ∧ Aside0 (Kd.V k137 137 w' w.heap.size (fun k_ => ((P1_ k_ ∨ P2_ k_) ∨ w.heap.size ≤ k_) ∧ some k_ ≠ (v10 : Value).ownBlock) (.slice A2 l2.length c2) l2) ∧ Aside0 (Kd.V k137 137 w' w.heap.size (fun k_ => ((P1_ k_ ∨ P2_ k_) ∨ w.heap.size ≤ k_) ∧ some k_ ≠ (v10 : Value).ownBlock) u9 x9_4) ∧ Aside0 (Kd.R k193 193 w' w.heap.size (fun k_ => (w.heap.size ≤ k_)) v10 x10_5) ∧ Aside0 (Below w.heap.size w w'))
                      case atStart => exact ⟨(x10_3), (x11_3), (0), (by first | rfl | (simp; done) | (simp [*]; done) | (simp [isEmpty_bne]; done)), (by first | rfl | (simp; done) | (simp [*]; done) | (simp [isEmpty_bne]; done)), H', ⟨Nat.le_refl _⟩, ⟨by (with_reducible repeat (first | apply Kd.V_alloc | apply Kd.V_drewN | apply Kd.V_drew)); exact HO_1.out⟩, ⟨by (with_reducible repeat (first | apply Kd.V_alloc | apply Kd.V_drewN | apply Kd.V_drew)); exact HO_2.out⟩, ⟨by (with_reducible repeat (first | apply Kd.V_alloc | apply Kd.V_drewN | apply Kd.V_drew)); exact HO_9.out⟩, ⟨by (with_reducible repeat (first | apply Kd.R_alloc | apply Kd.R_drewN | apply Kd.R_drew)); exact HO_10.out⟩, ⟨by repeat (first | (with_reducible first | exact HB.out | apply below_alloc | apply pw_below_drewN | apply below_drew1) | exact HB.out)⟩⟩
                      case round =>
                        clear H'
                        try clear c1
                        try clear c2
                        try clear p2
                        try clear c6
                        try clear c7
                        try clear c7b0
                        try clear c8
                        try clear c8b0
                        try clear c10
                        try clear c10b0
                        try clear c10b1
                        try clear c12
                        try clear p2
                        obtain ⟨x10_5, x11_5, x17_5, rfl, rfl, HA, HK5, HO_1, HO_2, HO_9, HO_10, HB⟩ := hrel
                        cases gk with
                        | zero => exact absurd HA.out (by simp [glossatorref4_MergeEdits.l2])
                        | succ k5 =>
                          have H := HA.out
                          clear HA
                          simp only [glossatorref4_MergeEdits.l2] at H
                          by_cases c13 : x17_5 < (t189.size : Int)
                          · rw [if_pos c13] at H
                            have c13b0 : decide (x17_5 < (t189.size : Int)) = true := decide_eq_true c13
                            clear c13
                            by_cases c14 : ((x13_3 == 0) == a3) = true
                            · rw [if_pos c14] at H
                              have c14b0 : ((x13_3 == 0) == a3) = true := c14
                              (try (have c14b1 : decide ((x13_3 == 0) = a3) = true := by simpa using c14))
                              (try (have c14b2 : ((x13_3 == 0) == a3) = true := by simpa using c14))
                              clear c14
                              by_cases c15 : 0 ≤ x17_5
                              · rw [if_pos c15] at H
                                have c15b0 : decide (0 ≤ x17_5) = true := decide_eq_true c15
                                clear c15
                                by_cases c17 : x10_5.length < 8796093022208
                                · rw [if_pos c17] at H
                                  have LMc17 := Aside0.mk c17
                                  clear c17
                                  obtain ⟨y190, hy190⟩ : ∃ y_ : List (S193), y_ = (x10_5 ++ [(⟨bt t189 x17_5, x11_5⟩ : S193)]) := ⟨_, rfl⟩
                                  replace H : (glossatorref4_MergeEdits.l2 k5 a0 l1 l2 a3 x9_4 y190 (wrap64 (x11_5 + 1)) x12_2 x13_3 (x13_3 == 0) t189 (wrap64 (x17_5 + 1))) = some r := by first | (rw [hy190]; with_reducible exact H) | (have H2_ := (Option.bind_some _ _).symm.trans H; rw [hy190]; with_reducible exact H2_) | (have H2_ := (Option.bind_some _ _).symm.trans H; with_reducible exact H2_) | with_reducible exact H | (rw [hy190]; exact H) | exact H
                                  have Ny190 := Aside0.mk hy190
                                  clear hy190
                                  have H' := Aside0.mk H
                                  clear H
                                  have p16 : 0 ≤ (x17_5 : Int) := of_decide_eq_true (by first | (with_reducible assumption) | assumption)
                                  have q16 : x17_5 < (t189.size : Int) := of_decide_eq_true (by first | (with_reducible assumption) | assumption)
                                  have hx16 := bt_at t189 x17_5
                                  replace p16 := eq_true p16
                                  replace q16 := eq_true q16
                                  go_wp2_with (first | ((with_reducible refine gate_builtin (b := .append) (xs := #[.tmp 48, .tmp 54]) rfl ?_); at_builtin; refine Kd.R_append k193 (w0 := w) w.heap.size rfl (.tmp 48) (.tmp 54) 118 193 (.agg #[(.int .u8 0), (.int .i64 0)]) 16 rfl Try.underlying118 info193 rfl (by decide) (by omega) u10 x10_5 (⟨bt t189 x17_5, x11_5⟩ : S193) [.int .u8 (bt t189 x17_5), .int .i64 x11_5] (fun k_ => (w.heap.size ≤ k_)) (fun _ => False) rfl rfl ?aP (fun _ hk => hk.elim) ?aF ?aO ?aB ?aS ?aL ?_; (case aP => exact k193_mkM _ _ _ (⟨bt t189 x17_5, x11_5⟩ : S193)); (case aB => exact (by repeat (first | (with_reducible first | exact HB.out | apply below_alloc | apply pw_below_drewN | apply below_drew1) | exact HB.out))); (case aF => exact (fun k_ hk => (Nat.le_trans (below_size (by repeat (first | (with_reducible first | exact HB.out | apply below_alloc | apply pw_below_drewN | apply below_drew1) | exact HB.out))) hk))); (case aO => exact (by (with_reducible repeat (first | apply Kd.R_alloc | apply Kd.R_drewN | apply Kd.R_drew)); exact HO_10.out)); (case aS => exact (below_size (by repeat (first | (with_reducible first | exact HB.out | apply below_alloc | apply pw_below_drewN | apply below_drew1) | exact HB.out)))); (case aL => have := LMc17.out; omega); intro v191 w18 ho hb hg hat; rw [← Ny190.out] at ho; have n0_ := Aside0.mk (Kd.V_afterv (ok := (fun k_ => ((P1_ k_ ∨ P2_ k_) ∨ w.heap.size ≤ k_))) (by (with_reducible repeat (first | apply Kd.V_alloc | apply Kd.V_drewN | apply Kd.V_drew)); exact HO_1.out) hg hat); have n1_ := Aside0.mk (Kd.V_afterv (ok := (fun k_ => ((P1_ k_ ∨ P2_ k_) ∨ w.heap.size ≤ k_))) (by (with_reducible repeat (first | apply Kd.V_alloc | apply Kd.V_drewN | apply Kd.V_drew)); exact HO_2.out) hg hat); have n2_ := Aside0.mk (Kd.V_afterv (ok := (fun k_ => ((P1_ k_ ∨ P2_ k_) ∨ w.heap.size ≤ k_))) (by (with_reducible repeat (first | apply Kd.V_alloc | apply Kd.V_drewN | apply Kd.V_drew)); exact HO_9.out) hg hat); have n3_ := Aside0.mk (hb); have n4_ := Aside0.mk (ho); clear HO_1; clear HO_2; clear HO_9; clear HB; clear HO_10; have HO_1 := n0_; have HO_2 := n1_; have HO_9 := n2_; have HB := n3_; have HO192 := n4_; clear n0_ n1_ n2_ n3_ n4_; clear ho hb hg hat))
                                  go_roundg k5
                                  case measure => have := HJ4.out; have := HK2.out; have := HK3.out; have := HJ8.out; have := HK5.out; omega
                                  case rel => exact ⟨(y190), (wrap64 (x11_5 + 1)), (wrap64 (x17_5 + 1)), (by first | rfl | (simp; done) | (simp [*]; done) | (simp [isEmpty_bne]; done)), (by first | rfl | (simp; done) | (simp [*]; done) | (simp [isEmpty_bne]; done)), H', ⟨by have := HJ4.out; have := HK2.out; have := HK3.out; have := HJ8.out; have := HK5.out; omega⟩, ⟨by (with_reducible repeat (first | apply Kd.V_alloc | apply Kd.V_drewN | apply Kd.V_drew)); exact HO_1.out⟩, ⟨by (with_reducible repeat (first | apply Kd.V_alloc | apply Kd.V_drewN | apply Kd.V_drew)); exact HO_2.out⟩, ⟨by (with_reducible repeat (first | apply Kd.V_alloc | apply Kd.V_drewN | apply Kd.V_drew)); exact HO_9.out⟩, ⟨by (with_reducible repeat (first | apply Kd.R_alloc | apply Kd.R_drewN | apply Kd.R_drew)); exact HO192.out⟩, ⟨by repeat (first | (with_reducible first | exact HB.out | apply below_alloc | apply pw_below_drewN | apply below_drew1) | exact HB.out)⟩⟩
                                · rw [if_neg c17] at H
                                  exact absurd H (by simp)
                              · rw [if_neg c15] at H
                                exact absurd H (by simp)
                            · rw [if_neg c14] at H
                              have c14b0 : ((x13_3 == 0) == a3) = false := by simpa using c14
                              (try (have c14b1 : decide ((x13_3 == 0) = a3) = false := by simpa using c14))
                              (try (have c14b2 : ((x13_3 == 0) == a3) = false := by simpa using c14))
                              (try (have c14b3 : ¬ ((x13_3 == 0) = a3) := by simpa using c14))
                              clear c14
                              by_cases c19 : 0 ≤ x17_5
                              · rw [if_pos c19] at H
                                have c19b0 : decide (0 ≤ x17_5) = true := decide_eq_true c19
                                clear c19
                                by_cases c21 : x10_5.length < 8796093022208
                                · rw [if_pos c21] at H
                                  have LMc21 := Aside0.mk c21
                                  clear c21
                                  obtain ⟨y193, hy193⟩ : ∃ y_ : List (S193), y_ = (x10_5 ++ [(⟨bt t189 x17_5, (-1)⟩ : S193)]) := ⟨_, rfl⟩
                                  replace H : (glossatorref4_MergeEdits.l2 k5 a0 l1 l2 a3 x9_4 y193 x11_5 x12_2 x13_3 (x13_3 == 0) t189 (wrap64 (x17_5 + 1))) = some r := by first | (rw [hy193]; with_reducible exact H) | (have H2_ := (Option.bind_some _ _).symm.trans H; rw [hy193]; with_reducible exact H2_) | (have H2_ := (Option.bind_some _ _).symm.trans H; with_reducible exact H2_) | with_reducible exact H | (rw [hy193]; exact H) | exact H
                                  have Ny193 := Aside0.mk hy193
                                  clear hy193
                                  have H' := Aside0.mk H
                                  clear H
                                  have p20 : 0 ≤ (x17_5 : Int) := of_decide_eq_true (by first | (with_reducible assumption) | assumption)
                                  have q20 : x17_5 < (t189.size : Int) := of_decide_eq_true (by first | (with_reducible assumption) | assumption)
                                  have hx20 := bt_at t189 x17_5
                                  replace p20 := eq_true p20
                                  replace q20 := eq_true q20
                                  go_wp2_with (first | ((with_reducible refine gate_builtin (b := .append) (xs := #[.tmp 58, .tmp 63]) rfl ?_); at_builtin; refine Kd.R_append k193 (w0 := w) w.heap.size rfl (.tmp 58) (.tmp 63) 118 193 (.agg #[(.int .u8 0), (.int .i64 0)]) 16 rfl Try.underlying118 info193 rfl (by decide) (by omega) u10 x10_5 (⟨bt t189 x17_5, (-1)⟩ : S193) [.int .u8 (bt t189 x17_5), .int .i64 (-1)] (fun k_ => (w.heap.size ≤ k_)) (fun _ => False) rfl rfl ?aP (fun _ hk => hk.elim) ?aF ?aO ?aB ?aS ?aL ?_; (case aP => exact k193_mkM _ _ _ (⟨bt t189 x17_5, (-1)⟩ : S193)); (case aB => exact (by repeat (first | (with_reducible first | exact HB.out | apply below_alloc | apply pw_below_drewN | apply below_drew1) | exact HB.out))); (case aF => exact (fun k_ hk => (Nat.le_trans (below_size (by repeat (first | (with_reducible first | exact HB.out | apply below_alloc | apply pw_below_drewN | apply below_drew1) | exact HB.out))) hk))); (case aO => exact (by (with_reducible repeat (first | apply Kd.R_alloc | apply Kd.R_drewN | apply Kd.R_drew)); exact HO_10.out)); (case aS => exact (below_size (by repeat (first | (with_reducible first | exact HB.out | apply below_alloc | apply pw_below_drewN | apply below_drew1) | exact HB.out)))); (case aL => have := LMc21.out; omega); intro v194 w22 ho hb hg hat; rw [← Ny193.out] at ho; have n0_ := Aside0.mk (Kd.V_afterv (ok := (fun k_ => ((P1_ k_ ∨ P2_ k_) ∨ w.heap.size ≤ k_))) (by (with_reducible repeat (first | apply Kd.V_alloc | apply Kd.V_drewN | apply Kd.V_drew)); exact HO_1.out) hg hat); have n1_ := Aside0.mk (Kd.V_afterv (ok := (fun k_ => ((P1_ k_ ∨ P2_ k_) ∨ w.heap.size ≤ k_))) (by (with_reducible repeat (first | apply Kd.V_alloc | apply Kd.V_drewN | apply Kd.V_drew)); exact HO_2.out) hg hat); have n2_ := Aside0.mk (Kd.V_afterv (ok := (fun k_ => ((P1_ k_ ∨ P2_ k_) ∨ w.heap.size ≤ k_))) (by (with_reducible repeat (first | apply Kd.V_alloc | apply Kd.V_drewN | apply Kd.V_drew)); exact HO_9.out) hg hat); have n3_ := Aside0.mk (hb); have n4_ := Aside0.mk (ho); clear HO_1; clear HO_2; clear HO_9; clear HB; clear HO_10; have HO_1 := n0_; have HO_2 := n1_; have HO_9 := n2_; have HB := n3_; have HO195 := n4_; clear n0_ n1_ n2_ n3_ n4_; clear ho hb hg hat))
                                  go_roundg k5
                                  case measure => have := HJ4.out; have := HK2.out; have := HK3.out; have := HJ8.out; have := HK5.out; omega
                                  case rel => exact ⟨(y193), (x11_5), (wrap64 (x17_5 + 1)), (by first | rfl | (simp; done) | (simp [*]; done) | (simp [isEmpty_bne]; done)), (by first | rfl | (simp; done) | (simp [*]; done) | (simp [isEmpty_bne]; done)), H', ⟨by have := HJ4.out; have := HK2.out; have := HK3.out; have := HJ8.out; have := HK5.out; omega⟩, ⟨by (with_reducible repeat (first | apply Kd.V_alloc | apply Kd.V_drewN | apply Kd.V_drew)); exact HO_1.out⟩, ⟨by (with_reducible repeat (first | apply Kd.V_alloc | apply Kd.V_drewN | apply Kd.V_drew)); exact HO_2.out⟩, ⟨by (with_reducible repeat (first | apply Kd.V_alloc | apply Kd.V_drewN | apply Kd.V_drew)); exact HO_9.out⟩, ⟨by (with_reducible repeat (first | apply Kd.R_alloc | apply Kd.R_drewN | apply Kd.R_drew)); exact HO195.out⟩, ⟨by repeat (first | (with_reducible first | exact HB.out | apply below_alloc | apply pw_below_drewN | apply below_drew1) | exact HB.out)⟩⟩
                                · rw [if_neg c21] at H
                                  exact absurd H (by simp)
                              · rw [if_neg c19] at H
                                exact absurd H (by simp)
                          · rw [if_neg c13] at H
                            have c13b0 : decide (x17_5 < (t189.size : Int)) = false := decide_eq_false c13
                            clear c13
                            have H' := Aside0.mk H
                            clear H
                            go_wp2
                            go_roundg k5
                            case measure => have := HJ4.out; have := HK2.out; have := HK3.out; have := HJ8.out; have := HK5.out; omega
                            case rel => exact ⟨(x10_5), (x11_5), (wrap64 (x13_3 + 1)), (by first | rfl | (simp; done) | (simp [*]; done) | (simp [isEmpty_bne]; done)), (by first | rfl | (simp; done) | (simp [*]; done) | (simp [isEmpty_bne]; done)), H', ⟨by have := HJ4.out; have := HK2.out; have := HK3.out; have := HJ8.out; have := HK5.out; omega⟩, ⟨by (with_reducible repeat (first | apply Kd.V_alloc | apply Kd.V_drewN | apply Kd.V_drew)); exact HO_1.out⟩, ⟨by (with_reducible repeat (first | apply Kd.V_alloc | apply Kd.V_drewN | apply Kd.V_drew)); exact HO_2.out⟩, ⟨by (with_reducible repeat (first | apply Kd.V_alloc | apply Kd.V_drewN | apply Kd.V_drew)); exact HO_9.out⟩, ⟨by (with_reducible repeat (first | apply Kd.R_alloc | apply Kd.R_drewN | apply Kd.R_drew)); exact HO_10.out⟩, ⟨by repeat (first | (with_reducible first | exact HB.out | apply below_alloc | apply pw_below_drewN | apply below_drew1) | exact HB.out)⟩⟩
                · rw [if_neg c8] at H
                  have c8b0 : decide (x13_3 < 2) = false := decide_eq_false c8
                  clear c8
                  by_cases c23 : x12_2 = (a0.size : Int)
                  · rw [if_pos c23] at H
                    have c23b0 : (x12_2 == (a0.size : Int)) = true := beq_iff_eq.mpr c23
                    have c23b1 : (x12_2 != (a0.size : Int)) = false := bne_eq_false_iff_eq.mpr c23
                    clear c23
                    obtain rfl := Option.some.inj H
                    go_wp2
                    go_ret
                    exact ⟨_, by first | rfl | (simp [errW_none, errW_some] <;> rfl) | (simp [*, errW_none, errW_some] <;> rfl), by (with_reducible repeat (first | apply Kd.R_alloc | apply Kd.R_drewN | apply Kd.R_drew)); exact HO_10.out, by repeat (first | (with_reducible first | exact HB.out | apply below_alloc | apply pw_below_drewN | apply below_drew1) | exact HB.out)⟩
                  · rw [if_neg c23] at H
                    have c23b0 : (x12_2 == (a0.size : Int)) = false := beq_eq_false_iff_ne.mpr c23
                    have c23b1 : (x12_2 != (a0.size : Int)) = true := bne_iff_ne.mpr c23
                    have HC24 := Aside0.mk H
                    clear H
                    go_upto_region 25 with (fail)
                    go_cut [78] (fun v78 wc => ∃ (kq : Nat) (x78_23 : Bool), v78 = .bool x78_23 ∧ Aside0 (glossatorref4_MergeEdits.j5 kq a0 l1 l2 a3 x9_4 x10_3 x11_3 x12_2 x78_23 = some r) ∧ Aside0 (kq ≤ k3) ∧ Aside0 (Kd.V k137 137 wc w.heap.size (fun k_ => ((P1_ k_ ∨ P2_ k_) ∨ w.heap.size ≤ k_) ∧ some k_ ≠ (u10 : Value).ownBlock) (.slice A1 l1.length c1) l1) ∧ Aside0 (Kd.V k137 137 wc w.heap.size (fun k_ => ((P1_ k_ ∨ P2_ k_) ∨ w.heap.size ≤ k_) ∧ some k_ ≠ (u10 : Value).ownBlock) (.slice A2 l2.length c2) l2) ∧ Aside0 (Kd.V k137 137 wc w.heap.size (fun k_ => ((P1_ k_ ∨ P2_ k_) ∨ w.heap.size ≤ k_) ∧ some k_ ≠ (u10 : Value).ownBlock) u9 x9_4) ∧ Aside0 (Kd.R k193 193 wc w.heap.size (fun k_ => (w.heap.size ≤ k_)) u10 x10_3) ∧ Aside0 (Below w.heap.size w wc))
                    case first =>
                      have H := HC24.out
                      clear HC24
                      replace H := Option.bind_eq_some_iff.mp H
                      obtain ⟨t196, A250, H⟩ := H
                      replace H : (if t196 = true then (glossatorref4_MergeEdits.j5 k3 a0 l1 l2 a3 x9_4 x10_3 x11_3 x12_2 false) else ((glossatorref4_DeletesByte.f k3 l2 x12_2).bind fun t197 => (glossatorref4_MergeEdits.j5 k3 a0 l1 l2 a3 x9_4 x10_3 x11_3 x12_2 (!t197)))) = some r := H
                      have A25 := Aside0.mk A250
                      clear A250
                      by_cases c26 : t196 = true
                      · subst c26
                        have H1 : (glossatorref4_MergeEdits.j5 k3 a0 l1 l2 a3 x9_4 x10_3 x11_3 x12_2 false) = some r := by rw [if_pos rfl] at H; exact H
                        clear H
                        have H := H1
                        clear H1
                        have H' := Aside0.mk H
                        clear H
                        go_wp2_with (first | ((with_reducible refine gate_callee (f := 122) rfl ?_); refine goesL_ (some 71) rfl rfl Try.func122 (by kernel_rfl) rfl #[.slice A1 l1.length c1, .int .i64 x12_2] rfl (by (try simp only [List.map_toArray, List.map_cons, List.map_nil]); first | done | rfl | (simp only [List.length_drop, List.length_take]; rfl)) ?_; (with_reducible refine (glossatorref4_DeletesByte.calls k3 _ _ l1 x12_2 true _ ?side1 ?side2 A25.out).mono ?_); (case side1 => repeat (first | exact (Kd.V_reads' HO_1.out).2.2 | (with_reducible refine Kd.C_alloc ?_ _) | (with_reducible refine Kd.C_drewN ?_ _) | (with_reducible refine Kd.C_drew ?_))); (case side2 => exact (Kd.V_reads' HO_1.out).2.1); rintro e w' ⟨rfl, ⟨nd, rfl⟩⟩; refine ⟨_, rfl, ?_⟩))
                        go_meet
                        case rel => exact ⟨_, (false), (by first | rfl | (simp; done) | (simp [*]; done) | (simp [isEmpty_bne]; done)), H', ⟨by have := HJ4.out; have := HK2.out; have := HK3.out; first | omega | exact Nat.le_refl _⟩, ⟨by (with_reducible repeat (first | apply Kd.V_alloc | apply Kd.V_drewN | apply Kd.V_drew)); exact HO_1.out⟩, ⟨by (with_reducible repeat (first | apply Kd.V_alloc | apply Kd.V_drewN | apply Kd.V_drew)); exact HO_2.out⟩, ⟨by (with_reducible repeat (first | apply Kd.V_alloc | apply Kd.V_drewN | apply Kd.V_drew)); exact HO_9.out⟩, ⟨by (with_reducible repeat (first | apply Kd.R_alloc | apply Kd.R_drewN | apply Kd.R_drew)); exact HO_10.out⟩, ⟨by repeat (first | (with_reducible first | exact HB.out | apply below_alloc | apply pw_below_drewN | apply below_drew1) | exact HB.out)⟩⟩
                      · replace c26 := Bool.eq_false_iff.mpr c26
                        subst c26
                        have H1 : ((glossatorref4_DeletesByte.f k3 l2 x12_2).bind fun t197 => (glossatorref4_MergeEdits.j5 k3 a0 l1 l2 a3 x9_4 x10_3 x11_3 x12_2 (!t197))) = some r := by rw [if_neg (show ¬ (false = true) by decide)] at H; exact H
                        clear H
                        have H := H1
                        clear H1
                        replace H := Option.bind_eq_some_iff.mp H
                        obtain ⟨t197, A270, H⟩ := H
                        replace H : (glossatorref4_MergeEdits.j5 k3 a0 l1 l2 a3 x9_4 x10_3 x11_3 x12_2 (!t197)) = some r := H
                        have A27 := Aside0.mk A270
                        clear A270
                        have H' := Aside0.mk H
                        clear H
                        go_wp2_with (first | ((with_reducible refine gate_callee (f := 122) rfl ?_); refine goesL_ (some 71) rfl rfl Try.func122 (by kernel_rfl) rfl #[.slice A1 l1.length c1, .int .i64 x12_2] rfl (by (try simp only [List.map_toArray, List.map_cons, List.map_nil]); first | done | rfl | (simp only [List.length_drop, List.length_take]; rfl)) ?_; (with_reducible refine (glossatorref4_DeletesByte.calls k3 _ _ l1 x12_2 false _ ?side1 ?side2 A25.out).mono ?_); (case side1 => repeat (first | exact (Kd.V_reads' HO_1.out).2.2 | (with_reducible refine Kd.C_alloc ?_ _) | (with_reducible refine Kd.C_drewN ?_ _) | (with_reducible refine Kd.C_drew ?_))); (case side2 => exact (Kd.V_reads' HO_1.out).2.1); rintro e w' ⟨rfl, ⟨nd, rfl⟩⟩; refine ⟨_, rfl, ?_⟩) | (go_at_call 122; (with_reducible refine (glossatorref4_DeletesByte.calls k3 _ _ l2 x12_2 t197 _ ?side1 ?side2 A27.out).mono ?_); (case side1 => repeat (first | exact (Kd.V_reads' HO_2.out).2.2 | (with_reducible refine Kd.C_alloc ?_ _) | (with_reducible refine Kd.C_drewN ?_ _) | (with_reducible refine Kd.C_drew ?_))); (case side2 => exact (Kd.V_reads' HO_2.out).2.1); rintro e w' ⟨rfl, ⟨nd, rfl⟩⟩))
                        go_meet
                        case rel => exact ⟨_, (!t197), (by first | rfl | (simp; done) | (simp [*]; done) | (simp [isEmpty_bne]; done)), H', ⟨by have := HJ4.out; have := HK2.out; have := HK3.out; first | omega | exact Nat.le_refl _⟩, ⟨by (with_reducible repeat (first | apply Kd.V_alloc | apply Kd.V_drewN | apply Kd.V_drew)); exact HO_1.out⟩, ⟨by (with_reducible repeat (first | apply Kd.V_alloc | apply Kd.V_drewN | apply Kd.V_drew)); exact HO_2.out⟩, ⟨by (with_reducible repeat (first | apply Kd.V_alloc | apply Kd.V_drewN | apply Kd.V_drew)); exact HO_9.out⟩, ⟨by (with_reducible repeat (first | apply Kd.R_alloc | apply Kd.R_drewN | apply Kd.R_drew)); exact HO_10.out⟩, ⟨by repeat (first | (with_reducible first | exact HB.out | apply below_alloc | apply pw_below_drewN | apply below_drew1) | exact HB.out)⟩⟩
                    case rest =>
                      clear HC24
                      try clear c1
                      try clear p1
                      try clear q1
                      try clear hx1
                      try clear c2
                      try clear p2
                      try clear q2
                      try clear hx2
                      try clear c6
                      try clear p6
                      try clear c7
                      try clear c7b0
                      try clear c8
                      try clear c8b0
                      try clear c10
                      try clear c10b0
                      try clear c10b1
                      try clear c12
                      try clear c13
                      try clear c13b0
                      try clear c14
                      try clear c14b0
                      try clear c14b1
                      try clear c14b2
                      try clear c15
                      try clear c15b0
                      try clear p16
                      try clear q16
                      try clear hx16
                      try clear c17
                      try clear c19
                      try clear c19b0
                      try clear p20
                      try clear q20
                      try clear hx20
                      try clear c21
                      try clear c23
                      try clear c23b0
                      try clear c23b1
                      try clear c26
                      try clear p16
                      try clear p2
                      try clear p20
                      try clear q16
                      try clear q20
                      obtain ⟨kq, x78_23, rfl, HA, HJ23, HO_1, HO_2, HO_9, HO_10, HB⟩ := hcut
                      cases kq with
                      | zero => exact absurd HA.out (by simp [glossatorref4_MergeEdits.j5])
                      | succ kj23 =>
                        have H := HA.out
                        clear HA
                        simp only [glossatorref4_MergeEdits.j5] at H
                        by_cases c28 : x78_23 = true
                        · subst c28
                          have H1 : (if 0 ≤ x12_2 then (if x12_2 < (a0.size : Int) then (if x10_3.length < 8796093022208 then ((some (x10_3 ++ [(⟨bt a0 x12_2, x11_3⟩ : S193)] : List (S193))).bind fun y198 => ((glossatorref4_DeletesByte.f kj23 x9_4 x12_2).bind fun t201 => (if t201 = true then (glossatorref4_MergeEdits.l0 kj23 a0 l1 l2 a3 x9_4 y198 x11_3 (wrap64 (x12_2 + 1))) else (glossatorref4_MergeEdits.l0 kj23 a0 l1 l2 a3 x9_4 y198 (wrap64 (x11_3 + 1)) (wrap64 (x12_2 + 1)))))) else (none)) else (none)) else (none)) = some r := by rw [if_pos rfl] at H; exact H
                          clear H
                          have H := H1
                          clear H1
                          by_cases c29 : 0 ≤ x12_2
                          · rw [if_pos c29] at H
                            have c29b0 : decide (0 ≤ x12_2) = true := decide_eq_true c29
                            clear c29
                            by_cases c30 : x12_2 < (a0.size : Int)
                            · rw [if_pos c30] at H
                              have c30b0 : decide (x12_2 < (a0.size : Int)) = true := decide_eq_true c30
                              clear c30
                              by_cases c32 : x10_3.length < 8796093022208
                              · rw [if_pos c32] at H
                                have LMc32 := Aside0.mk c32
                                clear c32
                                obtain ⟨y198, hy198⟩ : ∃ y_ : List (S193), y_ = (x10_3 ++ [(⟨bt a0 x12_2, x11_3⟩ : S193)]) := ⟨_, rfl⟩
                                replace H : ((glossatorref4_DeletesByte.f kj23 x9_4 x12_2).bind fun t201 => (if t201 = true then (glossatorref4_MergeEdits.l0 kj23 a0 l1 l2 a3 x9_4 y198 x11_3 (wrap64 (x12_2 + 1))) else (glossatorref4_MergeEdits.l0 kj23 a0 l1 l2 a3 x9_4 y198 (wrap64 (x11_3 + 1)) (wrap64 (x12_2 + 1))))) = some r := by first | (rw [hy198]; with_reducible exact H) | (have H2_ := (Option.bind_some _ _).symm.trans H; rw [hy198]; with_reducible exact H2_) | (have H2_ := (Option.bind_some _ _).symm.trans H; with_reducible exact H2_) | with_reducible exact H | (rw [hy198]; exact H) | exact H
                                have Ny198 := Aside0.mk hy198
                                clear hy198
                                replace H := Option.bind_eq_some_iff.mp H
                                obtain ⟨t201, A330, H⟩ := H
                                replace H : (if t201 = true then (glossatorref4_MergeEdits.l0 kj23 a0 l1 l2 a3 x9_4 y198 x11_3 (wrap64 (x12_2 + 1))) else (glossatorref4_MergeEdits.l0 kj23 a0 l1 l2 a3 x9_4 y198 (wrap64 (x11_3 + 1)) (wrap64 (x12_2 + 1)))) = some r := H
                                have A33 := Aside0.mk A330
                                clear A330
                                by_cases c34 : t201 = true
                                · subst c34
                                  have H1 : (glossatorref4_MergeEdits.l0 kj23 a0 l1 l2 a3 x9_4 y198 x11_3 (wrap64 (x12_2 + 1))) = some r := by rw [if_pos rfl] at H; exact H
                                  clear H
                                  have H := H1
                                  clear H1
                                  have H' := Aside0.mk H
                                  clear H
                                  have p31 : 0 ≤ (x12_2 : Int) := of_decide_eq_true (by first | (with_reducible assumption) | assumption)
                                  have q31 : x12_2 < (a0.size : Int) := of_decide_eq_true (by first | (with_reducible assumption) | assumption)
                                  have hx31 := bt_at a0 x12_2
                                  replace p31 := eq_true p31
                                  replace q31 := eq_true q31
                                  go_wp2_with (first | ((with_reducible refine gate_builtin (b := .append) (xs := #[.tmp 79, .tmp 85]) rfl ?_); at_builtin; refine Kd.R_append k193 (w0 := w) w.heap.size rfl (.tmp 79) (.tmp 85) 118 193 (.agg #[(.int .u8 0), (.int .i64 0)]) 16 rfl Try.underlying118 info193 rfl (by decide) (by omega) u10 x10_3 (⟨bt a0 x12_2, x11_3⟩ : S193) [.int .u8 (bt a0 x12_2), .int .i64 x11_3] (fun k_ => (w.heap.size ≤ k_)) (fun _ => False) rfl rfl ?aP (fun _ hk => hk.elim) ?aF ?aO ?aB ?aS ?aL ?_; (case aP => exact k193_mkM _ _ _ (⟨bt a0 x12_2, x11_3⟩ : S193)); (case aB => exact (by repeat (first | (with_reducible first | exact HB.out | apply below_alloc | apply pw_below_drewN | apply below_drew1) | exact HB.out))); (case aF => exact (fun k_ hk => (Nat.le_trans (below_size (by repeat (first | (with_reducible first | exact HB.out | apply below_alloc | apply pw_below_drewN | apply below_drew1) | exact HB.out))) hk))); (case aO => exact (by (with_reducible repeat (first | apply Kd.R_alloc | apply Kd.R_drewN | apply Kd.R_drew)); exact HO_10.out)); (case aS => exact (below_size (by repeat (first | (with_reducible first | exact HB.out | apply below_alloc | apply pw_below_drewN | apply below_drew1) | exact HB.out)))); (case aL => have := LMc32.out; omega); intro v199 w35 ho hb hg hat; rw [← Ny198.out] at ho; have n0_ := Aside0.mk (Kd.V_afterv (ok := (fun k_ => ((P1_ k_ ∨ P2_ k_) ∨ w.heap.size ≤ k_))) (by (with_reducible repeat (first | apply Kd.V_alloc | apply Kd.V_drewN | apply Kd.V_drew)); exact HO_1.out) hg hat); have n1_ := Aside0.mk (Kd.V_afterv (ok := (fun k_ => ((P1_ k_ ∨ P2_ k_) ∨ w.heap.size ≤ k_))) (by (with_reducible repeat (first | apply Kd.V_alloc | apply Kd.V_drewN | apply Kd.V_drew)); exact HO_2.out) hg hat); have n2_ := Aside0.mk (Kd.V_afterv (ok := (fun k_ => ((P1_ k_ ∨ P2_ k_) ∨ w.heap.size ≤ k_))) (by (with_reducible repeat (first | apply Kd.V_alloc | apply Kd.V_drewN | apply Kd.V_drew)); exact HO_9.out) hg hat); have n3_ := Aside0.mk (hb); have n4_ := Aside0.mk (ho); clear HO_1; clear HO_2; clear HO_9; clear HB; clear HO_10; have HO_1 := n0_; have HO_2 := n1_; have HO_9 := n2_; have HB := n3_; have HO200 := n4_; clear n0_ n1_ n2_ n3_ n4_; clear ho hb hg hat; obtain ⟨Ao36, co36, eo36⟩ := Kd.V_slice HO_9.out; subst eo36) | ((with_reducible refine gate_callee (f := 122) rfl ?_); refine goesL_ (some 89) rfl rfl Try.func122 (by kernel_rfl) rfl #[.slice Ao36 x9_4.length co36, .int .i64 x12_2] rfl (by (try simp only [List.map_toArray, List.map_cons, List.map_nil]); first | done | rfl | (simp only [List.length_drop, List.length_take]; rfl)) ?_; (with_reducible refine (glossatorref4_DeletesByte.calls kj23 _ _ x9_4 x12_2 true _ ?side1 ?side2 A33.out).mono ?_); (case side1 => repeat (first | exact (Kd.V_reads' HO_9.out).2.2 | (with_reducible refine Kd.C_alloc ?_ _) | (with_reducible refine Kd.C_drewN ?_ _) | (with_reducible refine Kd.C_drew ?_))); (case side2 => exact (Kd.V_reads' HO_9.out).2.1); rintro e w' ⟨rfl, ⟨nd, rfl⟩⟩; refine ⟨_, rfl, ?_⟩))
                                  go_roundg kj23
                                  case measure => have := HJ4.out; have := HK2.out; have := HK3.out; have := HJ23.out; omega
                                  case rel => exact ⟨(y198), (x11_3), (wrap64 (x12_2 + 1)), (by first | rfl | (simp; done) | (simp [*]; done) | (simp [isEmpty_bne]; done)), (by first | rfl | (simp; done) | (simp [*]; done) | (simp [isEmpty_bne]; done)), H', ⟨by have := HJ4.out; have := HK2.out; have := HK3.out; have := HJ23.out; omega⟩, ⟨by (with_reducible repeat (first | apply Kd.V_alloc | apply Kd.V_drewN | apply Kd.V_drew)); exact HO_1.out⟩, ⟨by (with_reducible repeat (first | apply Kd.V_alloc | apply Kd.V_drewN | apply Kd.V_drew)); exact HO_2.out⟩, ⟨by (with_reducible repeat (first | apply Kd.V_alloc | apply Kd.V_drewN | apply Kd.V_drew)); exact HO_9.out⟩, ⟨by (with_reducible repeat (first | apply Kd.R_alloc | apply Kd.R_drewN | apply Kd.R_drew)); exact HO200.out⟩, ⟨by repeat (first | (with_reducible first | exact HB.out | apply below_alloc | apply pw_below_drewN | apply below_drew1) | exact HB.out)⟩⟩
                                · replace c34 := Bool.eq_false_iff.mpr c34
                                  subst c34
                                  have H1 : (glossatorref4_MergeEdits.l0 kj23 a0 l1 l2 a3 x9_4 y198 (wrap64 (x11_3 + 1)) (wrap64 (x12_2 + 1))) = some r := by rw [if_neg (show ¬ (false = true) by decide)] at H; exact H
                                  clear H
                                  have H := H1
                                  clear H1
                                  have H' := Aside0.mk H
                                  clear H
                                  have p31 : 0 ≤ (x12_2 : Int) := of_decide_eq_true (by first | (with_reducible assumption) | assumption)
                                  have q31 : x12_2 < (a0.size : Int) := of_decide_eq_true (by first | (with_reducible assumption) | assumption)
                                  have hx31 := bt_at a0 x12_2
                                  replace p31 := eq_true p31
                                  replace q31 := eq_true q31
                                  go_wp2_with (first | ((with_reducible refine gate_builtin (b := .append) (xs := #[.tmp 79, .tmp 85]) rfl ?_); at_builtin; refine Kd.R_append k193 (w0 := w) w.heap.size rfl (.tmp 79) (.tmp 85) 118 193 (.agg #[(.int .u8 0), (.int .i64 0)]) 16 rfl Try.underlying118 info193 rfl (by decide) (by omega) u10 x10_3 (⟨bt a0 x12_2, x11_3⟩ : S193) [.int .u8 (bt a0 x12_2), .int .i64 x11_3] (fun k_ => (w.heap.size ≤ k_)) (fun _ => False) rfl rfl ?aP (fun _ hk => hk.elim) ?aF ?aO ?aB ?aS ?aL ?_; (case aP => exact k193_mkM _ _ _ (⟨bt a0 x12_2, x11_3⟩ : S193)); (case aB => exact (by repeat (first | (with_reducible first | exact HB.out | apply below_alloc | apply pw_below_drewN | apply below_drew1) | exact HB.out))); (case aF => exact (fun k_ hk => (Nat.le_trans (below_size (by repeat (first | (with_reducible first | exact HB.out | apply below_alloc | apply pw_below_drewN | apply below_drew1) | exact HB.out))) hk))); (case aO => exact (by (with_reducible repeat (first | apply Kd.R_alloc | apply Kd.R_drewN | apply Kd.R_drew)); exact HO_10.out)); (case aS => exact (below_size (by repeat (first | (with_reducible first | exact HB.out | apply below_alloc | apply pw_below_drewN | apply below_drew1) | exact HB.out)))); (case aL => have := LMc32.out; omega); intro v199 w37 ho hb hg hat; rw [← Ny198.out] at ho; have n0_ := Aside0.mk (Kd.V_afterv (ok := (fun k_ => ((P1_ k_ ∨ P2_ k_) ∨ w.heap.size ≤ k_))) (by (with_reducible repeat (first | apply Kd.V_alloc | apply Kd.V_drewN | apply Kd.V_drew)); exact HO_1.out) hg hat); have n1_ := Aside0.mk (Kd.V_afterv (ok := (fun k_ => ((P1_ k_ ∨ P2_ k_) ∨ w.heap.size ≤ k_))) (by (with_reducible repeat (first | apply Kd.V_alloc | apply Kd.V_drewN | apply Kd.V_drew)); exact HO_2.out) hg hat); have n2_ := Aside0.mk (Kd.V_afterv (ok := (fun k_ => ((P1_ k_ ∨ P2_ k_) ∨ w.heap.size ≤ k_))) (by (with_reducible repeat (first | apply Kd.V_alloc | apply Kd.V_drewN | apply Kd.V_drew)); exact HO_9.out) hg hat); have n3_ := Aside0.mk (hb); have n4_ := Aside0.mk (ho); clear HO_1; clear HO_2; clear HO_9; clear HB; clear HO_10; have HO_1 := n0_; have HO_2 := n1_; have HO_9 := n2_; have HB := n3_; have HO200 := n4_; clear n0_ n1_ n2_ n3_ n4_; clear ho hb hg hat; obtain ⟨Ao38, co38, eo38⟩ := Kd.V_slice HO_9.out; subst eo38) | ((with_reducible refine gate_callee (f := 122) rfl ?_); refine goesL_ (some 89) rfl rfl Try.func122 (by kernel_rfl) rfl #[.slice Ao38 x9_4.length co38, .int .i64 x12_2] rfl (by (try simp only [List.map_toArray, List.map_cons, List.map_nil]); first | done | rfl | (simp only [List.length_drop, List.length_take]; rfl)) ?_; (with_reducible refine (glossatorref4_DeletesByte.calls kj23 _ _ x9_4 x12_2 false _ ?side1 ?side2 A33.out).mono ?_); (case side1 => repeat (first | exact (Kd.V_reads' HO_9.out).2.2 | (with_reducible refine Kd.C_alloc ?_ _) | (with_reducible refine Kd.C_drewN ?_ _) | (with_reducible refine Kd.C_drew ?_))); (case side2 => exact (Kd.V_reads' HO_9.out).2.1); rintro e w' ⟨rfl, ⟨nd, rfl⟩⟩; refine ⟨_, rfl, ?_⟩))
                                  go_roundg kj23
                                  case measure => have := HJ4.out; have := HK2.out; have := HK3.out; have := HJ23.out; omega
                                  case rel => exact ⟨(y198), (wrap64 (x11_3 + 1)), (wrap64 (x12_2 + 1)), (by first | rfl | (simp; done) | (simp [*]; done) | (simp [isEmpty_bne]; done)), (by first | rfl | (simp; done) | (simp [*]; done) | (simp [isEmpty_bne]; done)), H', ⟨by have := HJ4.out; have := HK2.out; have := HK3.out; have := HJ23.out; omega⟩, ⟨by (with_reducible repeat (first | apply Kd.V_alloc | apply Kd.V_drewN | apply Kd.V_drew)); exact HO_1.out⟩, ⟨by (with_reducible repeat (first | apply Kd.V_alloc | apply Kd.V_drewN | apply Kd.V_drew)); exact HO_2.out⟩, ⟨by (with_reducible repeat (first | apply Kd.V_alloc | apply Kd.V_drewN | apply Kd.V_drew)); exact HO_9.out⟩, ⟨by (with_reducible repeat (first | apply Kd.R_alloc | apply Kd.R_drewN | apply Kd.R_drew)); exact HO200.out⟩, ⟨by repeat (first | (with_reducible first | exact HB.out | apply below_alloc | apply pw_below_drewN | apply below_drew1) | exact HB.out)⟩⟩
                              · rw [if_neg c32] at H
                                exact absurd H (by simp)
                            · rw [if_neg c30] at H
                              exact absurd H (by simp)
                          · rw [if_neg c29] at H
                            exact absurd H (by simp)
                        · replace c28 := Bool.eq_false_iff.mpr c28
                          subst c28
                          have H1 : ((glossatorref4_DeletesByte.f kj23 x9_4 x12_2).bind fun t202 => (if t202 = true then (glossatorref4_MergeEdits.l0 kj23 a0 l1 l2 a3 x9_4 x10_3 x11_3 (wrap64 (x12_2 + 1))) else (glossatorref4_MergeEdits.l0 kj23 a0 l1 l2 a3 x9_4 x10_3 (wrap64 (x11_3 + 1)) (wrap64 (x12_2 + 1))))) = some r := by rw [if_neg (show ¬ (false = true) by decide)] at H; exact H
                          clear H
                          have H := H1
                          clear H1
                          replace H := Option.bind_eq_some_iff.mp H
                          obtain ⟨t202, A390, H⟩ := H
                          replace H : (if t202 = true then (glossatorref4_MergeEdits.l0 kj23 a0 l1 l2 a3 x9_4 x10_3 x11_3 (wrap64 (x12_2 + 1))) else (glossatorref4_MergeEdits.l0 kj23 a0 l1 l2 a3 x9_4 x10_3 (wrap64 (x11_3 + 1)) (wrap64 (x12_2 + 1)))) = some r := H
                          have A39 := Aside0.mk A390
                          clear A390
                          by_cases c40 : t202 = true
                          · subst c40
                            have H1 : (glossatorref4_MergeEdits.l0 kj23 a0 l1 l2 a3 x9_4 x10_3 x11_3 (wrap64 (x12_2 + 1))) = some r := by rw [if_pos rfl] at H; exact H
                            clear H
                            have H := H1
                            clear H1
                            have H' := Aside0.mk H
                            clear H
                            obtain ⟨Ao41, co41, eo41⟩ := Kd.V_slice HO_9.out
                            subst eo41
                            go_wp2_with (first | ((with_reducible refine gate_callee (f := 122) rfl ?_); refine goesL_ (some 89) rfl rfl Try.func122 (by kernel_rfl) rfl #[.slice Ao41 x9_4.length co41, .int .i64 x12_2] rfl (by (try simp only [List.map_toArray, List.map_cons, List.map_nil]); first | done | rfl | (simp only [List.length_drop, List.length_take]; rfl)) ?_; (with_reducible refine (glossatorref4_DeletesByte.calls kj23 _ _ x9_4 x12_2 true _ ?side1 ?side2 A39.out).mono ?_); (case side1 => repeat (first | exact (Kd.V_reads' HO_9.out).2.2 | (with_reducible refine Kd.C_alloc ?_ _) | (with_reducible refine Kd.C_drewN ?_ _) | (with_reducible refine Kd.C_drew ?_))); (case side2 => exact (Kd.V_reads' HO_9.out).2.1); rintro e w' ⟨rfl, ⟨nd, rfl⟩⟩; refine ⟨_, rfl, ?_⟩))
                            go_roundg kj23
                            case measure => have := HJ4.out; have := HK2.out; have := HK3.out; have := HJ23.out; omega
                            case rel => exact ⟨(x10_3), (x11_3), (wrap64 (x12_2 + 1)), (by first | rfl | (simp; done) | (simp [*]; done) | (simp [isEmpty_bne]; done)), (by first | rfl | (simp; done) | (simp [*]; done) | (simp [isEmpty_bne]; done)), H', ⟨by have := HJ4.out; have := HK2.out; have := HK3.out; have := HJ23.out; omega⟩, ⟨by (with_reducible repeat (first | apply Kd.V_alloc | apply Kd.V_drewN | apply Kd.V_drew)); exact HO_1.out⟩, ⟨by (with_reducible repeat (first | apply Kd.V_alloc | apply Kd.V_drewN | apply Kd.V_drew)); exact HO_2.out⟩, ⟨by (with_reducible repeat (first | apply Kd.V_alloc | apply Kd.V_drewN | apply Kd.V_drew)); exact HO_9.out⟩, ⟨by (with_reducible repeat (first | apply Kd.R_alloc | apply Kd.R_drewN | apply Kd.R_drew)); exact HO_10.out⟩, ⟨by repeat (first | (with_reducible first | exact HB.out | apply below_alloc | apply pw_below_drewN | apply below_drew1) | exact HB.out)⟩⟩
                          · replace c40 := Bool.eq_false_iff.mpr c40
                            subst c40
                            have H1 : (glossatorref4_MergeEdits.l0 kj23 a0 l1 l2 a3 x9_4 x10_3 (wrap64 (x11_3 + 1)) (wrap64 (x12_2 + 1))) = some r := by rw [if_neg (show ¬ (false = true) by decide)] at H; exact H
                            clear H
                            have H := H1
                            clear H1
                            have H' := Aside0.mk H
                            clear H
                            obtain ⟨Ao42, co42, eo42⟩ := Kd.V_slice HO_9.out
                            subst eo42
                            go_wp2_with (first | ((with_reducible refine gate_callee (f := 122) rfl ?_); refine goesL_ (some 89) rfl rfl Try.func122 (by kernel_rfl) rfl #[.slice Ao42 x9_4.length co42, .int .i64 x12_2] rfl (by (try simp only [List.map_toArray, List.map_cons, List.map_nil]); first | done | rfl | (simp only [List.length_drop, List.length_take]; rfl)) ?_; (with_reducible refine (glossatorref4_DeletesByte.calls kj23 _ _ x9_4 x12_2 false _ ?side1 ?side2 A39.out).mono ?_); (case side1 => repeat (first | exact (Kd.V_reads' HO_9.out).2.2 | (with_reducible refine Kd.C_alloc ?_ _) | (with_reducible refine Kd.C_drewN ?_ _) | (with_reducible refine Kd.C_drew ?_))); (case side2 => exact (Kd.V_reads' HO_9.out).2.1); rintro e w' ⟨rfl, ⟨nd, rfl⟩⟩; refine ⟨_, rfl, ?_⟩))
                            go_roundg kj23
                            case measure => have := HJ4.out; have := HK2.out; have := HK3.out; have := HJ23.out; omega
                            case rel => exact ⟨(x10_3), (wrap64 (x11_3 + 1)), (wrap64 (x12_2 + 1)), (by first | rfl | (simp; done) | (simp [*]; done) | (simp [isEmpty_bne]; done)), (by first | rfl | (simp; done) | (simp [*]; done) | (simp [isEmpty_bne]; done)), H', ⟨by have := HJ4.out; have := HK2.out; have := HK3.out; have := HJ23.out; omega⟩, ⟨by (with_reducible repeat (first | apply Kd.V_alloc | apply Kd.V_drewN | apply Kd.V_drew)); exact HO_1.out⟩, ⟨by (with_reducible repeat (first | apply Kd.V_alloc | apply Kd.V_drewN | apply Kd.V_drew)); exact HO_2.out⟩, ⟨by (with_reducible repeat (first | apply Kd.V_alloc | apply Kd.V_drewN | apply Kd.V_drew)); exact HO_9.out⟩, ⟨by (with_reducible repeat (first | apply Kd.R_alloc | apply Kd.R_drewN | apply Kd.R_drew)); exact HO_10.out⟩, ⟨by repeat (first | (with_reducible first | exact HB.out | apply below_alloc | apply pw_below_drewN | apply below_drew1) | exact HB.out)⟩⟩
          · rw [if_neg c7] at H
            have c7b0 : decide (x12_2 ≤ (a0.size : Int)) = false := decide_eq_false c7
            clear c7
            obtain rfl := Option.some.inj H
            go_wp2
            go_ret
            exact ⟨_, by first | rfl | (simp [errW_none, errW_some] <;> rfl) | (simp [*, errW_none, errW_some] <;> rfl), by (with_reducible repeat (first | apply Kd.R_alloc | apply Kd.R_drewN | apply Kd.R_drew)); exact HO_10.out, by repeat (first | (with_reducible first | exact HB.out | apply below_alloc | apply pw_below_drewN | apply below_drew1) | exact HB.out)⟩

end Go.Proofs.Ytbfedkmiekbcmaa.QTexteditTransformEqualsReference
