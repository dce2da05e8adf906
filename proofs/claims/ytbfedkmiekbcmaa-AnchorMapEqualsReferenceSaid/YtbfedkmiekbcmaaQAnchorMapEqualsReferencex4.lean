-- Written by gen.py (this repo's wip/), which runs the kit's print.py with more arms. Lean checks it.
import Derived.Test.YtbfedkmiekbcmaaQAnchorMapEqualsReferencex0
import Derived.Test.YtbfedkmiekbcmaaQAnchorMapEqualsReferencex1
import Derived.Test.YtbfedkmiekbcmaaQAnchorMapEqualsReferencex2
import Derived.Test.YtbfedkmiekbcmaaQAnchorMapEqualsReferencex3
namespace Go.Proofs.Ytbfedkmiekbcmaa.QAnchorMapEqualsReference
open Go.RowKit Go.Proofs.YtbfedkmiekbcmaaW.PrintWords Go.Proofs.YtbfedkmiekbcmaaW.PrintLast Go.Proofs.YtbfedkmiekbcmaaW.PrintMore
attribute [local go_sem] max2_int min2_int max_two min_two max_three min_three max_four min_four   -- for this text's walks alone
set_option linter.unusedVariables false
set_option linter.unusedSimpArgs false

private theorem isEmpty_bne {α : Type} [BEq α] (l : List α) : (l != []) = !l.isEmpty := by cases l <;> rfl

/-! ### glossatorlaw4_AnchorMapEqualsReference: function 5 -/
mutual
def glossatorlaw4_AnchorMapEqualsReference.j0 : Nat → List (S137) → Int → Int → Bool → List Int → Int → Int → Int → Int → Int → List Int → Int → Int → Int → Int → Int → Int → Int → List Int → Bool → Option (Bool)
  | 0, _, _, _, _, _, _, _, _, _, _, _, _, _, _, _, _, _, _, _, _ => none
  | k + 1, x0, x1, x2, x3, x4, x11, x12, x13, x14, x15, x16, x17, x19, x20, x21, x22, x23, x24, x25, x62 => if x62 = true then (glossatorlaw4_AnchorMapEqualsReference.j1 k x0 x1 x2 x3 x4 x11 x12 x13 x14 x15 x16 x17 1 1 x21 x22 x23 x24 x25) else (glossatorlaw4_AnchorMapEqualsReference.j1 k x0 x1 x2 x3 x4 x11 x12 x13 x14 x15 x16 x17 x19 x20 x21 x22 x23 x24 x25)
def glossatorlaw4_AnchorMapEqualsReference.j1 : Nat → List (S137) → Int → Int → Bool → List Int → Int → Int → Int → Int → Int → List Int → Int → Int → Int → Int → Int → Int → Int → List Int → Option (Bool)
  | 0, _, _, _, _, _, _, _, _, _, _, _, _, _, _, _, _, _, _, _ => none
  | k + 1, x0, x1, x2, x3, x4, x11, x12, x13, x14, x15, x16, x17, x19, x20, x21, x22, x23, x24, x25 => if x20 = 0 then (glossatorlaw4_AnchorMapEqualsReference.j2 k x0 x1 x2 x3 x4 x11 x12 x13 x14 x15 x16 x17 x19 x20 x21 x22 x23 x24 x25 (decide (x2 < x1))) else (glossatorlaw4_AnchorMapEqualsReference.j2 k x0 x1 x2 x3 x4 x11 x12 x13 x14 x15 x16 x17 x19 x20 x21 x22 x23 x24 x25 false)
def glossatorlaw4_AnchorMapEqualsReference.j2 : Nat → List (S137) → Int → Int → Bool → List Int → Int → Int → Int → Int → Int → List Int → Int → Int → Int → Int → Int → Int → Int → List Int → Bool → Option (Bool)
  | 0, _, _, _, _, _, _, _, _, _, _, _, _, _, _, _, _, _, _, _, _ => none
  | k + 1, x0, x1, x2, x3, x4, x11, x12, x13, x14, x15, x16, x17, x19, x20, x21, x22, x23, x24, x25, x69 => if x69 = true then (glossatorlaw4_AnchorMapEqualsReference.j3 k x0 x1 x2 x3 x4 x11 x12 x13 x14 x15 x16 x17 x19 1 x21 x22 x23 x24 x25) else (glossatorlaw4_AnchorMapEqualsReference.j3 k x0 x1 x2 x3 x4 x11 x12 x13 x14 x15 x16 x17 x19 x20 x21 x22 x23 x24 x25)
def glossatorlaw4_AnchorMapEqualsReference.j3 : Nat → List (S137) → Int → Int → Bool → List Int → Int → Int → Int → Int → Int → List Int → Int → Int → Int → Int → Int → Int → Int → List Int → Option (Bool)
  | 0, _, _, _, _, _, _, _, _, _, _, _, _, _, _, _, _, _, _, _ => none
  | k + 1, x0, x1, x2, x3, x4, x11, x12, x13, x14, x15, x16, x17, x19, x20, x21, x22, x23, x24, x25 => if x19 = 0 then ((glossatorref4_MapOffset.f k x0 x1 x3).bind fun t162 => (glossatorlaw4_AnchorMapEqualsReference.j4 k x0 x1 x2 x3 x4 x11 x12 x13 x14 x15 x16 x17 x19 x20 x21 t162 x23 x24 x25)) else (glossatorlaw4_AnchorMapEqualsReference.j4 k x0 x1 x2 x3 x4 x11 x12 x13 x14 x15 x16 x17 x19 x20 x21 x22 x23 x24 x25)
def glossatorlaw4_AnchorMapEqualsReference.j4 : Nat → List (S137) → Int → Int → Bool → List Int → Int → Int → Int → Int → Int → List Int → Int → Int → Int → Int → Int → Int → Int → List Int → Option (Bool)
  | 0, _, _, _, _, _, _, _, _, _, _, _, _, _, _, _, _, _, _, _ => none
  | k + 1, x0, x1, x2, x3, x4, x11, x12, x13, x14, x15, x16, x17, x19, x20, x21, x22, x23, x24, x25 => if x20 = 0 then ((glossatorref4_MapOffset.f k x0 x1 (!x3)).bind fun t163 => ((glossatorref4_MapOffset.f k x0 x2 x3).bind fun t164 => (glossatorlaw4_AnchorMapEqualsReference.j5 k x0 x3 x4 x11 x12 x13 x14 x15 x16 x17 x19 x20 x21 x22 t163 (mx t163 t164) x25))) else (glossatorlaw4_AnchorMapEqualsReference.j5 k x0 x3 x4 x11 x12 x13 x14 x15 x16 x17 x19 x20 x21 x22 x23 x24 x25)
def glossatorlaw4_AnchorMapEqualsReference.j5 : Nat → List (S137) → Bool → List Int → Int → Int → Int → Int → Int → List Int → Int → Int → Int → Int → Int → Int → Int → List Int → Option (Bool)
  | 0, _, _, _, _, _, _, _, _, _, _, _, _, _, _, _, _, _ => none
  | k + 1, x0, x3, x4, x11, x12, x13, x14, x15, x16, x17, x19, x20, x21, x22, x23, x24, x25 => glossatorlaw4_AnchorMapEqualsReference.l0 k x0 x3 x4 x11 x12 x13 x14 x15 x16 x17 x19 x20 x21 x22 x23 x24 x25 0
def glossatorlaw4_AnchorMapEqualsReference.l0 : Nat → List (S137) → Bool → List Int → Int → Int → Int → Int → Int → List Int → Int → Int → Int → Int → Int → Int → Int → List Int → Int → Option (Bool)
  | 0, _, _, _, _, _, _, _, _, _, _, _, _, _, _, _, _, _, _ => none
  | k + 1, x0, x3, x4, x11, x12, x13, x14, x15, x16, x17, x19, x20, x21, x22, x23, x24, x25, x26 => if x26 < (x4.length : Int) then (glossatorlaw4_AnchorMapEqualsReference.j7 k x0 x3 x4 x11 x12 x13 x14 x15 x16 x17 x19 x20 x21 x22 x23 x24 x25 x26 (x21 == 0)) else (glossatorlaw4_AnchorMapEqualsReference.j7 k x0 x3 x4 x11 x12 x13 x14 x15 x16 x17 x19 x20 x21 x22 x23 x24 x25 x26 false)
def glossatorlaw4_AnchorMapEqualsReference.j7 : Nat → List (S137) → Bool → List Int → Int → Int → Int → Int → Int → List Int → Int → Int → Int → Int → Int → Int → Int → List Int → Int → Bool → Option (Bool)
  | 0, _, _, _, _, _, _, _, _, _, _, _, _, _, _, _, _, _, _, _ => none
  | k + 1, x0, x3, x4, x11, x12, x13, x14, x15, x16, x17, x19, x20, x21, x22, x23, x24, x25, x26, x96 => if x96 = true then (if 0 ≤ x26 then (if x26 < (x4.length : Int) then (if (rd x4 x26) < 0 then (glossatorlaw4_AnchorMapEqualsReference.l0 k x0 x3 x4 x11 x12 x13 x14 x15 x16 x17 x19 x20 1 x22 x23 x24 ([] : List Int) (wrap64 (x26 + 1))) else ((glossatorref4_MapOffset.f k x0 (rd x4 x26) x3).bind fun t167 => (if x25.length < 17592186044416 then (glossatorlaw4_AnchorMapEqualsReference.l0 k x0 x3 x4 x11 x12 x13 x14 x15 x16 x17 x19 x20 x21 x22 x23 x24 (x25 ++ [t167]) (wrap64 (x26 + 1))) else (none)))) else (none)) else (none)) else (if x11 = x22 then (if x12 = x19 then (if x13 = x23 then (if x14 = x24 then (if x15 = x20 then ((glossatorref4_EqualInts.f k x16 x25).bind fun t171 => (if t171 = true then (some (x17 == x21)) else (some false))) else (some false)) else (some false)) else (some false)) else (some false)) else (some false))
end
def glossatorlaw4_AnchorMapEqualsReference.f (k : Nat) (l0 : List (S137)) (a1 : Int) (a2 : Int) (a3 : Bool) (l4 : List Int) : Option (Bool) := (glossatorlaw4_anchorExamples.f k).bind fun t151 => (if t151 = true then ((anchor_Map.f k l0 a1 a3).bind fun bt152 => ((anchor_MapRange.f k l0 a1 a2 a3).bind fun bt154 => ((anchor_MapAll.f k l0 l4 a3).bind fun bt157 => ((glossatorref4_ValidateOrder.f k l0).bind fun t161 => (if t161 = 0 then (glossatorlaw4_AnchorMapEqualsReference.j0 k l0 a1 a2 a3 l4 bt152.1 bt152.2 bt154.1 bt154.2.1 bt154.2.2 bt157.1 bt157.2 t161 t161 t161 0 0 0 ([] : List Int) (decide (a1 < 0))) else (glossatorlaw4_AnchorMapEqualsReference.j0 k l0 a1 a2 a3 l4 bt152.1 bt152.2 bt154.1 bt154.2.1 bt154.2.2 bt157.1 bt157.2 t161 t161 t161 0 0 0 ([] : List Int) false)))))) else (some false))
theorem glossatorlaw4_AnchorMapEqualsReference.mono_l : ∀ k, (∀ y0 y1 y2 y3 y4 y5 y6 y7 y8 y9 y10 y11 y12 y13 y14 y15 y16 y17 y18 y19, LeO (glossatorlaw4_AnchorMapEqualsReference.j0 k y0 y1 y2 y3 y4 y5 y6 y7 y8 y9 y10 y11 y12 y13 y14 y15 y16 y17 y18 y19) (glossatorlaw4_AnchorMapEqualsReference.j0 (k + 1) y0 y1 y2 y3 y4 y5 y6 y7 y8 y9 y10 y11 y12 y13 y14 y15 y16 y17 y18 y19)) ∧ (∀ y0 y1 y2 y3 y4 y5 y6 y7 y8 y9 y10 y11 y12 y13 y14 y15 y16 y17 y18, LeO (glossatorlaw4_AnchorMapEqualsReference.j1 k y0 y1 y2 y3 y4 y5 y6 y7 y8 y9 y10 y11 y12 y13 y14 y15 y16 y17 y18) (glossatorlaw4_AnchorMapEqualsReference.j1 (k + 1) y0 y1 y2 y3 y4 y5 y6 y7 y8 y9 y10 y11 y12 y13 y14 y15 y16 y17 y18)) ∧ (∀ y0 y1 y2 y3 y4 y5 y6 y7 y8 y9 y10 y11 y12 y13 y14 y15 y16 y17 y18 y19, LeO (glossatorlaw4_AnchorMapEqualsReference.j2 k y0 y1 y2 y3 y4 y5 y6 y7 y8 y9 y10 y11 y12 y13 y14 y15 y16 y17 y18 y19) (glossatorlaw4_AnchorMapEqualsReference.j2 (k + 1) y0 y1 y2 y3 y4 y5 y6 y7 y8 y9 y10 y11 y12 y13 y14 y15 y16 y17 y18 y19)) ∧ (∀ y0 y1 y2 y3 y4 y5 y6 y7 y8 y9 y10 y11 y12 y13 y14 y15 y16 y17 y18, LeO (glossatorlaw4_AnchorMapEqualsReference.j3 k y0 y1 y2 y3 y4 y5 y6 y7 y8 y9 y10 y11 y12 y13 y14 y15 y16 y17 y18) (glossatorlaw4_AnchorMapEqualsReference.j3 (k + 1) y0 y1 y2 y3 y4 y5 y6 y7 y8 y9 y10 y11 y12 y13 y14 y15 y16 y17 y18)) ∧ (∀ y0 y1 y2 y3 y4 y5 y6 y7 y8 y9 y10 y11 y12 y13 y14 y15 y16 y17 y18, LeO (glossatorlaw4_AnchorMapEqualsReference.j4 k y0 y1 y2 y3 y4 y5 y6 y7 y8 y9 y10 y11 y12 y13 y14 y15 y16 y17 y18) (glossatorlaw4_AnchorMapEqualsReference.j4 (k + 1) y0 y1 y2 y3 y4 y5 y6 y7 y8 y9 y10 y11 y12 y13 y14 y15 y16 y17 y18)) ∧ (∀ y0 y1 y2 y3 y4 y5 y6 y7 y8 y9 y10 y11 y12 y13 y14 y15 y16, LeO (glossatorlaw4_AnchorMapEqualsReference.j5 k y0 y1 y2 y3 y4 y5 y6 y7 y8 y9 y10 y11 y12 y13 y14 y15 y16) (glossatorlaw4_AnchorMapEqualsReference.j5 (k + 1) y0 y1 y2 y3 y4 y5 y6 y7 y8 y9 y10 y11 y12 y13 y14 y15 y16)) ∧ (∀ y0 y1 y2 y3 y4 y5 y6 y7 y8 y9 y10 y11 y12 y13 y14 y15 y16 y17, LeO (glossatorlaw4_AnchorMapEqualsReference.l0 k y0 y1 y2 y3 y4 y5 y6 y7 y8 y9 y10 y11 y12 y13 y14 y15 y16 y17) (glossatorlaw4_AnchorMapEqualsReference.l0 (k + 1) y0 y1 y2 y3 y4 y5 y6 y7 y8 y9 y10 y11 y12 y13 y14 y15 y16 y17)) ∧ (∀ y0 y1 y2 y3 y4 y5 y6 y7 y8 y9 y10 y11 y12 y13 y14 y15 y16 y17 y18, LeO (glossatorlaw4_AnchorMapEqualsReference.j7 k y0 y1 y2 y3 y4 y5 y6 y7 y8 y9 y10 y11 y12 y13 y14 y15 y16 y17 y18) (glossatorlaw4_AnchorMapEqualsReference.j7 (k + 1) y0 y1 y2 y3 y4 y5 y6 y7 y8 y9 y10 y11 y12 y13 y14 y15 y16 y17 y18))
  | 0 => ⟨fun _ _ _ _ _ _ _ _ _ _ _ _ _ _ _ _ _ _ _ _ r h => by simp [glossatorlaw4_AnchorMapEqualsReference.j0] at h, fun _ _ _ _ _ _ _ _ _ _ _ _ _ _ _ _ _ _ _ r h => by simp [glossatorlaw4_AnchorMapEqualsReference.j1] at h, fun _ _ _ _ _ _ _ _ _ _ _ _ _ _ _ _ _ _ _ _ r h => by simp [glossatorlaw4_AnchorMapEqualsReference.j2] at h, fun _ _ _ _ _ _ _ _ _ _ _ _ _ _ _ _ _ _ _ r h => by simp [glossatorlaw4_AnchorMapEqualsReference.j3] at h, fun _ _ _ _ _ _ _ _ _ _ _ _ _ _ _ _ _ _ _ r h => by simp [glossatorlaw4_AnchorMapEqualsReference.j4] at h, fun _ _ _ _ _ _ _ _ _ _ _ _ _ _ _ _ _ r h => by simp [glossatorlaw4_AnchorMapEqualsReference.j5] at h, fun _ _ _ _ _ _ _ _ _ _ _ _ _ _ _ _ _ _ r h => by simp [glossatorlaw4_AnchorMapEqualsReference.l0] at h, fun _ _ _ _ _ _ _ _ _ _ _ _ _ _ _ _ _ _ _ r h => by simp [glossatorlaw4_AnchorMapEqualsReference.j7] at h⟩
  | k + 1 => by
    obtain ⟨ih0, ih1, ih2, ih3, ih4, ih5, ih6, ih7⟩ := glossatorlaw4_AnchorMapEqualsReference.mono_l k
    refine ⟨?_, ?_, ?_, ?_, ?_, ?_, ?_, ?_⟩
    · intro y0 y1 y2 y3 y4 y5 y6 y7 y8 y9 y10 y11 y12 y13 y14 y15 y16 y17 y18 y19
      unfold glossatorlaw4_AnchorMapEqualsReference.j0
      repeat' first
      | (with_reducible exact ih0 _ _ _ _ _ _ _ _ _ _ _ _ _ _ _ _ _ _ _ _)
      | (with_reducible exact ih1 _ _ _ _ _ _ _ _ _ _ _ _ _ _ _ _ _ _ _)
      | (with_reducible exact ih2 _ _ _ _ _ _ _ _ _ _ _ _ _ _ _ _ _ _ _ _)
      | (with_reducible exact ih3 _ _ _ _ _ _ _ _ _ _ _ _ _ _ _ _ _ _ _)
      | (with_reducible exact ih4 _ _ _ _ _ _ _ _ _ _ _ _ _ _ _ _ _ _ _)
      | (with_reducible exact ih5 _ _ _ _ _ _ _ _ _ _ _ _ _ _ _ _ _)
      | (with_reducible exact ih6 _ _ _ _ _ _ _ _ _ _ _ _ _ _ _ _ _ _)
      | (with_reducible exact ih7 _ _ _ _ _ _ _ _ _ _ _ _ _ _ _ _ _ _ _)
      | (with_reducible exact anchor_Map.mono _ _ _ _)
      | (with_reducible exact anchor_MapAll.mono _ _ _ _)
      | (with_reducible exact anchor_MapRange.mono _ _ _ _ _)
      | (with_reducible exact glossatorlaw4_anchorExamples.mono _)
      | (with_reducible exact glossatorref4_EqualInts.mono _ _ _)
      | (with_reducible exact glossatorref4_MapOffset.mono _ _ _ _)
      | (with_reducible exact glossatorref4_ValidateOrder.mono _ _)
      | (with_reducible exact LeO.refl _)
      | (with_reducible exact LeO.none _)
      | (with_reducible refine LeO.ite ?_ ?_)
      | (with_reducible refine LeO.bind ?_ (fun _ => ?_))
      | exact ih0 _ _ _ _ _ _ _ _ _ _ _ _ _ _ _ _ _ _ _ _
      | exact ih1 _ _ _ _ _ _ _ _ _ _ _ _ _ _ _ _ _ _ _
      | exact ih2 _ _ _ _ _ _ _ _ _ _ _ _ _ _ _ _ _ _ _ _
      | exact ih3 _ _ _ _ _ _ _ _ _ _ _ _ _ _ _ _ _ _ _
      | exact ih4 _ _ _ _ _ _ _ _ _ _ _ _ _ _ _ _ _ _ _
      | exact ih5 _ _ _ _ _ _ _ _ _ _ _ _ _ _ _ _ _
      | exact ih6 _ _ _ _ _ _ _ _ _ _ _ _ _ _ _ _ _ _
      | exact ih7 _ _ _ _ _ _ _ _ _ _ _ _ _ _ _ _ _ _ _
      | exact anchor_Map.mono _ _ _ _
      | exact anchor_MapAll.mono _ _ _ _
      | exact anchor_MapRange.mono _ _ _ _ _
      | exact glossatorlaw4_anchorExamples.mono _
      | exact glossatorref4_EqualInts.mono _ _ _
      | exact glossatorref4_MapOffset.mono _ _ _ _
      | exact glossatorref4_ValidateOrder.mono _ _
      | exact LeO.none _
      | refine LeO.ite ?_ ?_
      | refine LeO.bind ?_ (fun _ => ?_)
    · intro y0 y1 y2 y3 y4 y5 y6 y7 y8 y9 y10 y11 y12 y13 y14 y15 y16 y17 y18
      unfold glossatorlaw4_AnchorMapEqualsReference.j1
      repeat' first
      | (with_reducible exact ih0 _ _ _ _ _ _ _ _ _ _ _ _ _ _ _ _ _ _ _ _)
      | (with_reducible exact ih1 _ _ _ _ _ _ _ _ _ _ _ _ _ _ _ _ _ _ _)
      | (with_reducible exact ih2 _ _ _ _ _ _ _ _ _ _ _ _ _ _ _ _ _ _ _ _)
      | (with_reducible exact ih3 _ _ _ _ _ _ _ _ _ _ _ _ _ _ _ _ _ _ _)
      | (with_reducible exact ih4 _ _ _ _ _ _ _ _ _ _ _ _ _ _ _ _ _ _ _)
      | (with_reducible exact ih5 _ _ _ _ _ _ _ _ _ _ _ _ _ _ _ _ _)
      | (with_reducible exact ih6 _ _ _ _ _ _ _ _ _ _ _ _ _ _ _ _ _ _)
      | (with_reducible exact ih7 _ _ _ _ _ _ _ _ _ _ _ _ _ _ _ _ _ _ _)
      | (with_reducible exact anchor_Map.mono _ _ _ _)
      | (with_reducible exact anchor_MapAll.mono _ _ _ _)
      | (with_reducible exact anchor_MapRange.mono _ _ _ _ _)
      | (with_reducible exact glossatorlaw4_anchorExamples.mono _)
      | (with_reducible exact glossatorref4_EqualInts.mono _ _ _)
      | (with_reducible exact glossatorref4_MapOffset.mono _ _ _ _)
      | (with_reducible exact glossatorref4_ValidateOrder.mono _ _)
      | (with_reducible exact LeO.refl _)
      | (with_reducible exact LeO.none _)
      | (with_reducible refine LeO.ite ?_ ?_)
      | (with_reducible refine LeO.bind ?_ (fun _ => ?_))
      | exact ih0 _ _ _ _ _ _ _ _ _ _ _ _ _ _ _ _ _ _ _ _
      | exact ih1 _ _ _ _ _ _ _ _ _ _ _ _ _ _ _ _ _ _ _
      | exact ih2 _ _ _ _ _ _ _ _ _ _ _ _ _ _ _ _ _ _ _ _
      | exact ih3 _ _ _ _ _ _ _ _ _ _ _ _ _ _ _ _ _ _ _
      | exact ih4 _ _ _ _ _ _ _ _ _ _ _ _ _ _ _ _ _ _ _
      | exact ih5 _ _ _ _ _ _ _ _ _ _ _ _ _ _ _ _ _
      | exact ih6 _ _ _ _ _ _ _ _ _ _ _ _ _ _ _ _ _ _
      | exact ih7 _ _ _ _ _ _ _ _ _ _ _ _ _ _ _ _ _ _ _
      | exact anchor_Map.mono _ _ _ _
      | exact anchor_MapAll.mono _ _ _ _
      | exact anchor_MapRange.mono _ _ _ _ _
      | exact glossatorlaw4_anchorExamples.mono _
      | exact glossatorref4_EqualInts.mono _ _ _
      | exact glossatorref4_MapOffset.mono _ _ _ _
      | exact glossatorref4_ValidateOrder.mono _ _
      | exact LeO.none _
      | refine LeO.ite ?_ ?_
      | refine LeO.bind ?_ (fun _ => ?_)
    · intro y0 y1 y2 y3 y4 y5 y6 y7 y8 y9 y10 y11 y12 y13 y14 y15 y16 y17 y18 y19
      unfold glossatorlaw4_AnchorMapEqualsReference.j2
      repeat' first
      | (with_reducible exact ih0 _ _ _ _ _ _ _ _ _ _ _ _ _ _ _ _ _ _ _ _)
      | (with_reducible exact ih1 _ _ _ _ _ _ _ _ _ _ _ _ _ _ _ _ _ _ _)
      | (with_reducible exact ih2 _ _ _ _ _ _ _ _ _ _ _ _ _ _ _ _ _ _ _ _)
      | (with_reducible exact ih3 _ _ _ _ _ _ _ _ _ _ _ _ _ _ _ _ _ _ _)
      | (with_reducible exact ih4 _ _ _ _ _ _ _ _ _ _ _ _ _ _ _ _ _ _ _)
      | (with_reducible exact ih5 _ _ _ _ _ _ _ _ _ _ _ _ _ _ _ _ _)
      | (with_reducible exact ih6 _ _ _ _ _ _ _ _ _ _ _ _ _ _ _ _ _ _)
      | (with_reducible exact ih7 _ _ _ _ _ _ _ _ _ _ _ _ _ _ _ _ _ _ _)
      | (with_reducible exact anchor_Map.mono _ _ _ _)
      | (with_reducible exact anchor_MapAll.mono _ _ _ _)
      | (with_reducible exact anchor_MapRange.mono _ _ _ _ _)
      | (with_reducible exact glossatorlaw4_anchorExamples.mono _)
      | (with_reducible exact glossatorref4_EqualInts.mono _ _ _)
      | (with_reducible exact glossatorref4_MapOffset.mono _ _ _ _)
      | (with_reducible exact glossatorref4_ValidateOrder.mono _ _)
      | (with_reducible exact LeO.refl _)
      | (with_reducible exact LeO.none _)
      | (with_reducible refine LeO.ite ?_ ?_)
      | (with_reducible refine LeO.bind ?_ (fun _ => ?_))
      | exact ih0 _ _ _ _ _ _ _ _ _ _ _ _ _ _ _ _ _ _ _ _
      | exact ih1 _ _ _ _ _ _ _ _ _ _ _ _ _ _ _ _ _ _ _
      | exact ih2 _ _ _ _ _ _ _ _ _ _ _ _ _ _ _ _ _ _ _ _
      | exact ih3 _ _ _ _ _ _ _ _ _ _ _ _ _ _ _ _ _ _ _
      | exact ih4 _ _ _ _ _ _ _ _ _ _ _ _ _ _ _ _ _ _ _
      | exact ih5 _ _ _ _ _ _ _ _ _ _ _ _ _ _ _ _ _
      | exact ih6 _ _ _ _ _ _ _ _ _ _ _ _ _ _ _ _ _ _
      | exact ih7 _ _ _ _ _ _ _ _ _ _ _ _ _ _ _ _ _ _ _
      | exact anchor_Map.mono _ _ _ _
      | exact anchor_MapAll.mono _ _ _ _
      | exact anchor_MapRange.mono _ _ _ _ _
      | exact glossatorlaw4_anchorExamples.mono _
      | exact glossatorref4_EqualInts.mono _ _ _
      | exact glossatorref4_MapOffset.mono _ _ _ _
      | exact glossatorref4_ValidateOrder.mono _ _
      | exact LeO.none _
      | refine LeO.ite ?_ ?_
      | refine LeO.bind ?_ (fun _ => ?_)
    · intro y0 y1 y2 y3 y4 y5 y6 y7 y8 y9 y10 y11 y12 y13 y14 y15 y16 y17 y18
      unfold glossatorlaw4_AnchorMapEqualsReference.j3
      repeat' first
      | (with_reducible exact ih0 _ _ _ _ _ _ _ _ _ _ _ _ _ _ _ _ _ _ _ _)
      | (with_reducible exact ih1 _ _ _ _ _ _ _ _ _ _ _ _ _ _ _ _ _ _ _)
      | (with_reducible exact ih2 _ _ _ _ _ _ _ _ _ _ _ _ _ _ _ _ _ _ _ _)
      | (with_reducible exact ih3 _ _ _ _ _ _ _ _ _ _ _ _ _ _ _ _ _ _ _)
      | (with_reducible exact ih4 _ _ _ _ _ _ _ _ _ _ _ _ _ _ _ _ _ _ _)
      | (with_reducible exact ih5 _ _ _ _ _ _ _ _ _ _ _ _ _ _ _ _ _)
      | (with_reducible exact ih6 _ _ _ _ _ _ _ _ _ _ _ _ _ _ _ _ _ _)
      | (with_reducible exact ih7 _ _ _ _ _ _ _ _ _ _ _ _ _ _ _ _ _ _ _)
      | (with_reducible exact anchor_Map.mono _ _ _ _)
      | (with_reducible exact anchor_MapAll.mono _ _ _ _)
      | (with_reducible exact anchor_MapRange.mono _ _ _ _ _)
      | (with_reducible exact glossatorlaw4_anchorExamples.mono _)
      | (with_reducible exact glossatorref4_EqualInts.mono _ _ _)
      | (with_reducible exact glossatorref4_MapOffset.mono _ _ _ _)
      | (with_reducible exact glossatorref4_ValidateOrder.mono _ _)
      | (with_reducible exact LeO.refl _)
      | (with_reducible exact LeO.none _)
      | (with_reducible refine LeO.ite ?_ ?_)
      | (with_reducible refine LeO.bind ?_ (fun _ => ?_))
      | exact ih0 _ _ _ _ _ _ _ _ _ _ _ _ _ _ _ _ _ _ _ _
      | exact ih1 _ _ _ _ _ _ _ _ _ _ _ _ _ _ _ _ _ _ _
      | exact ih2 _ _ _ _ _ _ _ _ _ _ _ _ _ _ _ _ _ _ _ _
      | exact ih3 _ _ _ _ _ _ _ _ _ _ _ _ _ _ _ _ _ _ _
      | exact ih4 _ _ _ _ _ _ _ _ _ _ _ _ _ _ _ _ _ _ _
      | exact ih5 _ _ _ _ _ _ _ _ _ _ _ _ _ _ _ _ _
      | exact ih6 _ _ _ _ _ _ _ _ _ _ _ _ _ _ _ _ _ _
      | exact ih7 _ _ _ _ _ _ _ _ _ _ _ _ _ _ _ _ _ _ _
      | exact anchor_Map.mono _ _ _ _
      | exact anchor_MapAll.mono _ _ _ _
      | exact anchor_MapRange.mono _ _ _ _ _
      | exact glossatorlaw4_anchorExamples.mono _
      | exact glossatorref4_EqualInts.mono _ _ _
      | exact glossatorref4_MapOffset.mono _ _ _ _
      | exact glossatorref4_ValidateOrder.mono _ _
      | exact LeO.none _
      | refine LeO.ite ?_ ?_
      | refine LeO.bind ?_ (fun _ => ?_)
    · intro y0 y1 y2 y3 y4 y5 y6 y7 y8 y9 y10 y11 y12 y13 y14 y15 y16 y17 y18
      unfold glossatorlaw4_AnchorMapEqualsReference.j4
      repeat' first
      | (with_reducible exact ih0 _ _ _ _ _ _ _ _ _ _ _ _ _ _ _ _ _ _ _ _)
      | (with_reducible exact ih1 _ _ _ _ _ _ _ _ _ _ _ _ _ _ _ _ _ _ _)
      | (with_reducible exact ih2 _ _ _ _ _ _ _ _ _ _ _ _ _ _ _ _ _ _ _ _)
      | (with_reducible exact ih3 _ _ _ _ _ _ _ _ _ _ _ _ _ _ _ _ _ _ _)
      | (with_reducible exact ih4 _ _ _ _ _ _ _ _ _ _ _ _ _ _ _ _ _ _ _)
      | (with_reducible exact ih5 _ _ _ _ _ _ _ _ _ _ _ _ _ _ _ _ _)
      | (with_reducible exact ih6 _ _ _ _ _ _ _ _ _ _ _ _ _ _ _ _ _ _)
      | (with_reducible exact ih7 _ _ _ _ _ _ _ _ _ _ _ _ _ _ _ _ _ _ _)
      | (with_reducible exact anchor_Map.mono _ _ _ _)
      | (with_reducible exact anchor_MapAll.mono _ _ _ _)
      | (with_reducible exact anchor_MapRange.mono _ _ _ _ _)
      | (with_reducible exact glossatorlaw4_anchorExamples.mono _)
      | (with_reducible exact glossatorref4_EqualInts.mono _ _ _)
      | (with_reducible exact glossatorref4_MapOffset.mono _ _ _ _)
      | (with_reducible exact glossatorref4_ValidateOrder.mono _ _)
      | (with_reducible exact LeO.refl _)
      | (with_reducible exact LeO.none _)
      | (with_reducible refine LeO.ite ?_ ?_)
      | (with_reducible refine LeO.bind ?_ (fun _ => ?_))
      | exact ih0 _ _ _ _ _ _ _ _ _ _ _ _ _ _ _ _ _ _ _ _
      | exact ih1 _ _ _ _ _ _ _ _ _ _ _ _ _ _ _ _ _ _ _
      | exact ih2 _ _ _ _ _ _ _ _ _ _ _ _ _ _ _ _ _ _ _ _
      | exact ih3 _ _ _ _ _ _ _ _ _ _ _ _ _ _ _ _ _ _ _
      | exact ih4 _ _ _ _ _ _ _ _ _ _ _ _ _ _ _ _ _ _ _
      | exact ih5 _ _ _ _ _ _ _ _ _ _ _ _ _ _ _ _ _
      | exact ih6 _ _ _ _ _ _ _ _ _ _ _ _ _ _ _ _ _ _
      | exact ih7 _ _ _ _ _ _ _ _ _ _ _ _ _ _ _ _ _ _ _
      | exact anchor_Map.mono _ _ _ _
      | exact anchor_MapAll.mono _ _ _ _
      | exact anchor_MapRange.mono _ _ _ _ _
      | exact glossatorlaw4_anchorExamples.mono _
      | exact glossatorref4_EqualInts.mono _ _ _
      | exact glossatorref4_MapOffset.mono _ _ _ _
      | exact glossatorref4_ValidateOrder.mono _ _
      | exact LeO.none _
      | refine LeO.ite ?_ ?_
      | refine LeO.bind ?_ (fun _ => ?_)
    · intro y0 y1 y2 y3 y4 y5 y6 y7 y8 y9 y10 y11 y12 y13 y14 y15 y16
      unfold glossatorlaw4_AnchorMapEqualsReference.j5
      repeat' first
      | (with_reducible exact ih0 _ _ _ _ _ _ _ _ _ _ _ _ _ _ _ _ _ _ _ _)
      | (with_reducible exact ih1 _ _ _ _ _ _ _ _ _ _ _ _ _ _ _ _ _ _ _)
      | (with_reducible exact ih2 _ _ _ _ _ _ _ _ _ _ _ _ _ _ _ _ _ _ _ _)
      | (with_reducible exact ih3 _ _ _ _ _ _ _ _ _ _ _ _ _ _ _ _ _ _ _)
      | (with_reducible exact ih4 _ _ _ _ _ _ _ _ _ _ _ _ _ _ _ _ _ _ _)
      | (with_reducible exact ih5 _ _ _ _ _ _ _ _ _ _ _ _ _ _ _ _ _)
      | (with_reducible exact ih6 _ _ _ _ _ _ _ _ _ _ _ _ _ _ _ _ _ _)
      | (with_reducible exact ih7 _ _ _ _ _ _ _ _ _ _ _ _ _ _ _ _ _ _ _)
      | (with_reducible exact anchor_Map.mono _ _ _ _)
      | (with_reducible exact anchor_MapAll.mono _ _ _ _)
      | (with_reducible exact anchor_MapRange.mono _ _ _ _ _)
      | (with_reducible exact glossatorlaw4_anchorExamples.mono _)
      | (with_reducible exact glossatorref4_EqualInts.mono _ _ _)
      | (with_reducible exact glossatorref4_MapOffset.mono _ _ _ _)
      | (with_reducible exact glossatorref4_ValidateOrder.mono _ _)
      | (with_reducible exact LeO.refl _)
      | (with_reducible exact LeO.none _)
      | (with_reducible refine LeO.ite ?_ ?_)
      | (with_reducible refine LeO.bind ?_ (fun _ => ?_))
      | exact ih0 _ _ _ _ _ _ _ _ _ _ _ _ _ _ _ _ _ _ _ _
      | exact ih1 _ _ _ _ _ _ _ _ _ _ _ _ _ _ _ _ _ _ _
      | exact ih2 _ _ _ _ _ _ _ _ _ _ _ _ _ _ _ _ _ _ _ _
      | exact ih3 _ _ _ _ _ _ _ _ _ _ _ _ _ _ _ _ _ _ _
      | exact ih4 _ _ _ _ _ _ _ _ _ _ _ _ _ _ _ _ _ _ _
      | exact ih5 _ _ _ _ _ _ _ _ _ _ _ _ _ _ _ _ _
      | exact ih6 _ _ _ _ _ _ _ _ _ _ _ _ _ _ _ _ _ _
      | exact ih7 _ _ _ _ _ _ _ _ _ _ _ _ _ _ _ _ _ _ _
      | exact anchor_Map.mono _ _ _ _
      | exact anchor_MapAll.mono _ _ _ _
      | exact anchor_MapRange.mono _ _ _ _ _
      | exact glossatorlaw4_anchorExamples.mono _
      | exact glossatorref4_EqualInts.mono _ _ _
      | exact glossatorref4_MapOffset.mono _ _ _ _
      | exact glossatorref4_ValidateOrder.mono _ _
      | exact LeO.none _
      | refine LeO.ite ?_ ?_
      | refine LeO.bind ?_ (fun _ => ?_)
    · intro y0 y1 y2 y3 y4 y5 y6 y7 y8 y9 y10 y11 y12 y13 y14 y15 y16 y17
      unfold glossatorlaw4_AnchorMapEqualsReference.l0
      repeat' first
      | (with_reducible exact ih0 _ _ _ _ _ _ _ _ _ _ _ _ _ _ _ _ _ _ _ _)
      | (with_reducible exact ih1 _ _ _ _ _ _ _ _ _ _ _ _ _ _ _ _ _ _ _)
      | (with_reducible exact ih2 _ _ _ _ _ _ _ _ _ _ _ _ _ _ _ _ _ _ _ _)
      | (with_reducible exact ih3 _ _ _ _ _ _ _ _ _ _ _ _ _ _ _ _ _ _ _)
      | (with_reducible exact ih4 _ _ _ _ _ _ _ _ _ _ _ _ _ _ _ _ _ _ _)
      | (with_reducible exact ih5 _ _ _ _ _ _ _ _ _ _ _ _ _ _ _ _ _)
      | (with_reducible exact ih6 _ _ _ _ _ _ _ _ _ _ _ _ _ _ _ _ _ _)
      | (with_reducible exact ih7 _ _ _ _ _ _ _ _ _ _ _ _ _ _ _ _ _ _ _)
      | (with_reducible exact anchor_Map.mono _ _ _ _)
      | (with_reducible exact anchor_MapAll.mono _ _ _ _)
      | (with_reducible exact anchor_MapRange.mono _ _ _ _ _)
      | (with_reducible exact glossatorlaw4_anchorExamples.mono _)
      | (with_reducible exact glossatorref4_EqualInts.mono _ _ _)
      | (with_reducible exact glossatorref4_MapOffset.mono _ _ _ _)
      | (with_reducible exact glossatorref4_ValidateOrder.mono _ _)
      | (with_reducible exact LeO.refl _)
      | (with_reducible exact LeO.none _)
      | (with_reducible refine LeO.ite ?_ ?_)
      | (with_reducible refine LeO.bind ?_ (fun _ => ?_))
      | exact ih0 _ _ _ _ _ _ _ _ _ _ _ _ _ _ _ _ _ _ _ _
      | exact ih1 _ _ _ _ _ _ _ _ _ _ _ _ _ _ _ _ _ _ _
      | exact ih2 _ _ _ _ _ _ _ _ _ _ _ _ _ _ _ _ _ _ _ _
      | exact ih3 _ _ _ _ _ _ _ _ _ _ _ _ _ _ _ _ _ _ _
      | exact ih4 _ _ _ _ _ _ _ _ _ _ _ _ _ _ _ _ _ _ _
      | exact ih5 _ _ _ _ _ _ _ _ _ _ _ _ _ _ _ _ _
      | exact ih6 _ _ _ _ _ _ _ _ _ _ _ _ _ _ _ _ _ _
      | exact ih7 _ _ _ _ _ _ _ _ _ _ _ _ _ _ _ _ _ _ _
      | exact anchor_Map.mono _ _ _ _
      | exact anchor_MapAll.mono _ _ _ _
      | exact anchor_MapRange.mono _ _ _ _ _
      | exact glossatorlaw4_anchorExamples.mono _
      | exact glossatorref4_EqualInts.mono _ _ _
      | exact glossatorref4_MapOffset.mono _ _ _ _
      | exact glossatorref4_ValidateOrder.mono _ _
      | exact LeO.none _
      | refine LeO.ite ?_ ?_
      | refine LeO.bind ?_ (fun _ => ?_)
    · intro y0 y1 y2 y3 y4 y5 y6 y7 y8 y9 y10 y11 y12 y13 y14 y15 y16 y17 y18
      unfold glossatorlaw4_AnchorMapEqualsReference.j7
      repeat' first
      | (with_reducible exact ih0 _ _ _ _ _ _ _ _ _ _ _ _ _ _ _ _ _ _ _ _)
      | (with_reducible exact ih1 _ _ _ _ _ _ _ _ _ _ _ _ _ _ _ _ _ _ _)
      | (with_reducible exact ih2 _ _ _ _ _ _ _ _ _ _ _ _ _ _ _ _ _ _ _ _)
      | (with_reducible exact ih3 _ _ _ _ _ _ _ _ _ _ _ _ _ _ _ _ _ _ _)
      | (with_reducible exact ih4 _ _ _ _ _ _ _ _ _ _ _ _ _ _ _ _ _ _ _)
      | (with_reducible exact ih5 _ _ _ _ _ _ _ _ _ _ _ _ _ _ _ _ _)
      | (with_reducible exact ih6 _ _ _ _ _ _ _ _ _ _ _ _ _ _ _ _ _ _)
      | (with_reducible exact ih7 _ _ _ _ _ _ _ _ _ _ _ _ _ _ _ _ _ _ _)
      | (with_reducible exact anchor_Map.mono _ _ _ _)
      | (with_reducible exact anchor_MapAll.mono _ _ _ _)
      | (with_reducible exact anchor_MapRange.mono _ _ _ _ _)
      | (with_reducible exact glossatorlaw4_anchorExamples.mono _)
      | (with_reducible exact glossatorref4_EqualInts.mono _ _ _)
      | (with_reducible exact glossatorref4_MapOffset.mono _ _ _ _)
      | (with_reducible exact glossatorref4_ValidateOrder.mono _ _)
      | (with_reducible exact LeO.refl _)
      | (with_reducible exact LeO.none _)
      | (with_reducible refine LeO.ite ?_ ?_)
      | (with_reducible refine LeO.bind ?_ (fun _ => ?_))
      | exact ih0 _ _ _ _ _ _ _ _ _ _ _ _ _ _ _ _ _ _ _ _
      | exact ih1 _ _ _ _ _ _ _ _ _ _ _ _ _ _ _ _ _ _ _
      | exact ih2 _ _ _ _ _ _ _ _ _ _ _ _ _ _ _ _ _ _ _ _
      | exact ih3 _ _ _ _ _ _ _ _ _ _ _ _ _ _ _ _ _ _ _
      | exact ih4 _ _ _ _ _ _ _ _ _ _ _ _ _ _ _ _ _ _ _
      | exact ih5 _ _ _ _ _ _ _ _ _ _ _ _ _ _ _ _ _
      | exact ih6 _ _ _ _ _ _ _ _ _ _ _ _ _ _ _ _ _ _
      | exact ih7 _ _ _ _ _ _ _ _ _ _ _ _ _ _ _ _ _ _ _
      | exact anchor_Map.mono _ _ _ _
      | exact anchor_MapAll.mono _ _ _ _
      | exact anchor_MapRange.mono _ _ _ _ _
      | exact glossatorlaw4_anchorExamples.mono _
      | exact glossatorref4_EqualInts.mono _ _ _
      | exact glossatorref4_MapOffset.mono _ _ _ _
      | exact glossatorref4_ValidateOrder.mono _ _
      | exact LeO.none _
      | refine LeO.ite ?_ ?_
      | refine LeO.bind ?_ (fun _ => ?_)
theorem glossatorlaw4_AnchorMapEqualsReference.mono : ∀ a0 a1 a2 a3 a4 k, LeO (glossatorlaw4_AnchorMapEqualsReference.f k a0 a1 a2 a3 a4) (glossatorlaw4_AnchorMapEqualsReference.f (k + 1) a0 a1 a2 a3 a4) := by
  intro a0 a1 a2 a3 a4 k
  obtain ⟨ih0, ih1, ih2, ih3, ih4, ih5, ih6, ih7⟩ := glossatorlaw4_AnchorMapEqualsReference.mono_l k
  unfold glossatorlaw4_AnchorMapEqualsReference.f
  repeat' first
      | (with_reducible exact ih0 _ _ _ _ _ _ _ _ _ _ _ _ _ _ _ _ _ _ _ _)
      | (with_reducible exact ih1 _ _ _ _ _ _ _ _ _ _ _ _ _ _ _ _ _ _ _)
      | (with_reducible exact ih2 _ _ _ _ _ _ _ _ _ _ _ _ _ _ _ _ _ _ _ _)
      | (with_reducible exact ih3 _ _ _ _ _ _ _ _ _ _ _ _ _ _ _ _ _ _ _)
      | (with_reducible exact ih4 _ _ _ _ _ _ _ _ _ _ _ _ _ _ _ _ _ _ _)
      | (with_reducible exact ih5 _ _ _ _ _ _ _ _ _ _ _ _ _ _ _ _ _)
      | (with_reducible exact ih6 _ _ _ _ _ _ _ _ _ _ _ _ _ _ _ _ _ _)
      | (with_reducible exact ih7 _ _ _ _ _ _ _ _ _ _ _ _ _ _ _ _ _ _ _)
      | (with_reducible exact anchor_Map.mono _ _ _ _)
      | (with_reducible exact anchor_MapAll.mono _ _ _ _)
      | (with_reducible exact anchor_MapRange.mono _ _ _ _ _)
      | (with_reducible exact glossatorlaw4_anchorExamples.mono _)
      | (with_reducible exact glossatorref4_EqualInts.mono _ _ _)
      | (with_reducible exact glossatorref4_MapOffset.mono _ _ _ _)
      | (with_reducible exact glossatorref4_ValidateOrder.mono _ _)
      | (with_reducible exact LeO.refl _)
      | (with_reducible exact LeO.none _)
      | (with_reducible refine LeO.ite ?_ ?_)
      | (with_reducible refine LeO.bind ?_ (fun _ => ?_))
      | exact ih0 _ _ _ _ _ _ _ _ _ _ _ _ _ _ _ _ _ _ _ _
      | exact ih1 _ _ _ _ _ _ _ _ _ _ _ _ _ _ _ _ _ _ _
      | exact ih2 _ _ _ _ _ _ _ _ _ _ _ _ _ _ _ _ _ _ _ _
      | exact ih3 _ _ _ _ _ _ _ _ _ _ _ _ _ _ _ _ _ _ _
      | exact ih4 _ _ _ _ _ _ _ _ _ _ _ _ _ _ _ _ _ _ _
      | exact ih5 _ _ _ _ _ _ _ _ _ _ _ _ _ _ _ _ _
      | exact ih6 _ _ _ _ _ _ _ _ _ _ _ _ _ _ _ _ _ _
      | exact ih7 _ _ _ _ _ _ _ _ _ _ _ _ _ _ _ _ _ _ _
      | exact anchor_Map.mono _ _ _ _
      | exact anchor_MapAll.mono _ _ _ _
      | exact anchor_MapRange.mono _ _ _ _ _
      | exact glossatorlaw4_anchorExamples.mono _
      | exact glossatorref4_EqualInts.mono _ _ _
      | exact glossatorref4_MapOffset.mono _ _ _ _
      | exact glossatorref4_ValidateOrder.mono _ _
      | exact LeO.none _
      | refine LeO.ite ?_ ?_
      | refine LeO.bind ?_ (fun _ => ?_)
set_option maxHeartbeats 8000000 in
set_option maxRecDepth 100000 in
theorem glossatorlaw4_AnchorMapEqualsReference.calls (k : Nat) (A0 : Option Addr) (c0 : Nat) (l0 : List (S137)) (a1 : Int) (a2 : Int) (a3 : Bool) (A4 : Option Addr) (c4 : Nat) (l4 : List Int) (r : Bool) (w : World) (hr0 : Kd.C k137 w A0 l0.length l0) (hc0 : l0.length ≤ c0) (hr4 : Kd.C (Kd.int .i64) w A4 l4.length l4) (hc4 : l4.length ≤ c4) (h : glossatorlaw4_AnchorMapEqualsReference.f k l0 a1 a2 a3 l4 = some r) :
    Calls Try.prog 5 #[.slice A0 l0.length c0, .int .i64 a1, .int .i64 a2, .bool a3, .slice A4 l4.length c4] w fun e w' => e = .returned (.bool r) ∧ Below w.heap.size w w' := by
  have HR0 := Aside0.mk hr0
  have HC0 := Aside0.mk hc0
  clear hr0 hc0
  have HR4 := Aside0.mk hr4
  have HC4 := Aside0.mk hc4
  clear hr4 hc4
  have HB := Aside0.mk (Below.refl w.heap.size w)
  have H : ((glossatorlaw4_anchorExamples.f k).bind fun t151 => (if t151 = true then ((anchor_Map.f k l0 a1 a3).bind fun bt152 => ((anchor_MapRange.f k l0 a1 a2 a3).bind fun bt154 => ((anchor_MapAll.f k l0 l4 a3).bind fun bt157 => ((glossatorref4_ValidateOrder.f k l0).bind fun t161 => (if t161 = 0 then (glossatorlaw4_AnchorMapEqualsReference.j0 k l0 a1 a2 a3 l4 bt152.1 bt152.2 bt154.1 bt154.2.1 bt154.2.2 bt157.1 bt157.2 t161 t161 t161 0 0 0 ([] : List Int) (decide (a1 < 0))) else (glossatorlaw4_AnchorMapEqualsReference.j0 k l0 a1 a2 a3 l4 bt152.1 bt152.2 bt154.1 bt154.2.1 bt154.2.2 bt157.1 bt157.2 t161 t161 t161 0 0 0 ([] : List Int) false)))))) else (some false))) = some r := h
  clear h
  replace H := Option.bind_eq_some_iff.mp H
  obtain ⟨t151, A60, H⟩ := H
  replace H : (if t151 = true then ((anchor_Map.f k l0 a1 a3).bind fun bt152 => ((anchor_MapRange.f k l0 a1 a2 a3).bind fun bt154 => ((anchor_MapAll.f k l0 l4 a3).bind fun bt157 => ((glossatorref4_ValidateOrder.f k l0).bind fun t161 => (if t161 = 0 then (glossatorlaw4_AnchorMapEqualsReference.j0 k l0 a1 a2 a3 l4 bt152.1 bt152.2 bt154.1 bt154.2.1 bt154.2.2 bt157.1 bt157.2 t161 t161 t161 0 0 0 ([] : List Int) (decide (a1 < 0))) else (glossatorlaw4_AnchorMapEqualsReference.j0 k l0 a1 a2 a3 l4 bt152.1 bt152.2 bt154.1 bt154.2.1 bt154.2.2 bt157.1 bt157.2 t161 t161 t161 0 0 0 ([] : List Int) false)))))) else (some false)) = some r := H
  have A6 := Aside0.mk A60
  clear A60
  by_cases c7 : t151 = true
  · subst c7
    have H1 : ((anchor_Map.f k l0 a1 a3).bind fun bt152 => ((anchor_MapRange.f k l0 a1 a2 a3).bind fun bt154 => ((anchor_MapAll.f k l0 l4 a3).bind fun bt157 => ((glossatorref4_ValidateOrder.f k l0).bind fun t161 => (if t161 = 0 then (glossatorlaw4_AnchorMapEqualsReference.j0 k l0 a1 a2 a3 l4 bt152.1 bt152.2 bt154.1 bt154.2.1 bt154.2.2 bt157.1 bt157.2 t161 t161 t161 0 0 0 ([] : List Int) (decide (a1 < 0))) else (glossatorlaw4_AnchorMapEqualsReference.j0 k l0 a1 a2 a3 l4 bt152.1 bt152.2 bt154.1 bt154.2.1 bt154.2.2 bt157.1 bt157.2 t161 t161 t161 0 0 0 ([] : List Int) false)))))) = some r := by rw [if_pos rfl] at H; exact H
    clear H
    have H := H1
    clear H1
    replace H := Option.bind_eq_some_iff.mp H
    obtain ⟨⟨t152, t153⟩, A80, H⟩ := H
    replace H : ((anchor_MapRange.f k l0 a1 a2 a3).bind fun bt154 => ((anchor_MapAll.f k l0 l4 a3).bind fun bt157 => ((glossatorref4_ValidateOrder.f k l0).bind fun t161 => (if t161 = 0 then (glossatorlaw4_AnchorMapEqualsReference.j0 k l0 a1 a2 a3 l4 t152 t153 bt154.1 bt154.2.1 bt154.2.2 bt157.1 bt157.2 t161 t161 t161 0 0 0 ([] : List Int) (decide (a1 < 0))) else (glossatorlaw4_AnchorMapEqualsReference.j0 k l0 a1 a2 a3 l4 t152 t153 bt154.1 bt154.2.1 bt154.2.2 bt157.1 bt157.2 t161 t161 t161 0 0 0 ([] : List Int) false))))) = some r := H
    have A8 := Aside0.mk A80
    clear A80
    replace H := Option.bind_eq_some_iff.mp H
    obtain ⟨⟨t154, t155, t156⟩, A90, H⟩ := H
    replace H : ((anchor_MapAll.f k l0 l4 a3).bind fun bt157 => ((glossatorref4_ValidateOrder.f k l0).bind fun t161 => (if t161 = 0 then (glossatorlaw4_AnchorMapEqualsReference.j0 k l0 a1 a2 a3 l4 t152 t153 t154 t155 t156 bt157.1 bt157.2 t161 t161 t161 0 0 0 ([] : List Int) (decide (a1 < 0))) else (glossatorlaw4_AnchorMapEqualsReference.j0 k l0 a1 a2 a3 l4 t152 t153 t154 t155 t156 bt157.1 bt157.2 t161 t161 t161 0 0 0 ([] : List Int) false)))) = some r := H
    have A9 := Aside0.mk A90
    clear A90
    replace H := Option.bind_eq_some_iff.mp H
    obtain ⟨⟨t157, t158⟩, A100, H⟩ := H
    replace H : ((glossatorref4_ValidateOrder.f k l0).bind fun t161 => (if t161 = 0 then (glossatorlaw4_AnchorMapEqualsReference.j0 k l0 a1 a2 a3 l4 t152 t153 t154 t155 t156 t157 t158 t161 t161 t161 0 0 0 ([] : List Int) (decide (a1 < 0))) else (glossatorlaw4_AnchorMapEqualsReference.j0 k l0 a1 a2 a3 l4 t152 t153 t154 t155 t156 t157 t158 t161 t161 t161 0 0 0 ([] : List Int) false))) = some r := H
    have A10 := Aside0.mk A100
    clear A100
    replace H := Option.bind_eq_some_iff.mp H
    obtain ⟨t161, A110, H⟩ := H
    replace H : (if t161 = 0 then (glossatorlaw4_AnchorMapEqualsReference.j0 k l0 a1 a2 a3 l4 t152 t153 t154 t155 t156 t157 t158 t161 t161 t161 0 0 0 ([] : List Int) (decide (a1 < 0))) else (glossatorlaw4_AnchorMapEqualsReference.j0 k l0 a1 a2 a3 l4 t152 t153 t154 t155 t156 t157 t158 t161 t161 t161 0 0 0 ([] : List Int) false)) = some r := H
    have A11 := Aside0.mk A110
    clear A110
    have HC12 := Aside0.mk H
    clear H
    go_enter Try.func5, Try.ntmps5
    go_upto_region 10 with (first | ((with_reducible refine gate_callee (f := 30) rfl ?_); refine goesL_ (some 27) rfl rfl Try.func30 (by kernel_rfl) rfl #[] rfl (by (try simp only [List.map_toArray, List.map_cons, List.map_nil]); first | done | rfl | (simp only [List.length_drop, List.length_take]; rfl)) ?_; (with_reducible refine (glossatorlaw4_anchorExamples.calls k  true _ A6.out).mono ?_); rintro e w13 ⟨rfl, hb⟩; refine ⟨_, rfl, ?_⟩; have n0_ := Aside0.mk (below_step (by repeat (first | (with_reducible first | exact HB.out | apply below_alloc | apply pw_below_drewN | apply below_drew1) | exact HB.out)) hb); clear HB; have HB := n0_; clear n0_; (try clear hb); (try clear hb2); (try clear hk); (try clear hi)) | ((with_reducible refine gate_callee (f := 31) rfl ?_); refine goesL_ (some 33) rfl rfl Try.func31 (by kernel_rfl) rfl #[.slice A0 l0.length c0, .int .i64 a1, .bool a3] rfl (by (try simp only [List.map_toArray, List.map_cons, List.map_nil]); first | done | rfl | (simp only [List.length_drop, List.length_take]; rfl)) ?_; (with_reducible refine (anchor_Map.calls k _ _ l0 a1 a3 t152 t153 _ ?side1 ?side2 A8.out).mono ?_); (case side1 => repeat (first | exact (Kd.C_below HR0.out HB.out) | (with_reducible refine Kd.C_alloc ?_ _) | (with_reducible refine Kd.C_drewN ?_ _) | (with_reducible refine Kd.C_drew ?_))); (case side2 => exact HC0.out); rintro e w14 ⟨rfl, hb⟩; refine ⟨_, rfl, ?_⟩; have n0_ := Aside0.mk (below_step (by repeat (first | (with_reducible first | exact HB.out | apply below_alloc | apply pw_below_drewN | apply below_drew1) | exact HB.out)) hb); clear HB; have HB := n0_; clear n0_; (try clear hb); (try clear hb2); (try clear hk); (try clear hi)) | ((with_reducible refine gate_callee (f := 32) rfl ?_); refine goesL_ (some 41) rfl rfl Try.func32 (by kernel_rfl) rfl #[.slice A0 l0.length c0, .int .i64 a1, .int .i64 a2, .bool a3] rfl (by (try simp only [List.map_toArray, List.map_cons, List.map_nil]); first | done | rfl | (simp only [List.length_drop, List.length_take]; rfl)) ?_; (with_reducible refine (anchor_MapRange.calls k _ _ l0 a1 a2 a3 t154 t155 t156 _ ?side1 ?side2 A9.out).mono ?_); (case side1 => repeat (first | exact (Kd.C_below HR0.out HB.out) | (with_reducible refine Kd.C_alloc ?_ _) | (with_reducible refine Kd.C_drewN ?_ _) | (with_reducible refine Kd.C_drew ?_))); (case side2 => exact HC0.out); rintro e w15 ⟨rfl, hb⟩; refine ⟨_, rfl, ?_⟩; have n0_ := Aside0.mk (below_step (by repeat (first | (with_reducible first | exact HB.out | apply below_alloc | apply pw_below_drewN | apply below_drew1) | exact HB.out)) hb); clear HB; have HB := n0_; clear n0_; (try clear hb); (try clear hb2); (try clear hk); (try clear hi)) | ((with_reducible refine gate_callee (f := 33) rfl ?_); refine goesL_ (some 49) rfl rfl Try.func33 (by kernel_rfl) rfl #[.slice A0 l0.length c0, .slice A4 l4.length c4, .bool a3] rfl (by (try simp only [List.map_toArray, List.map_cons, List.map_nil]); first | done | rfl | (simp only [List.length_drop, List.length_take]; rfl)) ?_; (with_reducible refine (anchor_MapAll.calls k _ _ l0 _ _ l4 a3 t157 t158 _ ?side1 ?side2 ?side3 ?side4 A10.out).mono ?_); (case side1 => repeat (first | exact (Kd.C_below HR0.out HB.out) | (with_reducible refine Kd.C_alloc ?_ _) | (with_reducible refine Kd.C_drewN ?_ _) | (with_reducible refine Kd.C_drew ?_))); (case side2 => exact HC0.out); (case side3 => repeat (first | exact (Kd.C_below HR4.out HB.out) | (with_reducible refine Kd.C_alloc ?_ _) | (with_reducible refine Kd.C_drewN ?_ _) | (with_reducible refine Kd.C_drew ?_))); (case side4 => exact HC4.out); rintro e w16 ⟨v159, rfl, ho0, hb⟩; refine ⟨_, rfl, ?_⟩; have n0_ := Aside0.mk (Kd.R_lower ho0 (below_size (by repeat (first | (with_reducible first | exact HB.out | apply below_alloc | apply pw_below_drewN | apply below_drew1) | exact HB.out)))); have n1_ := Aside0.mk (below_step (by repeat (first | (with_reducible first | exact HB.out | apply below_alloc | apply pw_below_drewN | apply below_drew1) | exact HB.out)) hb); clear HB; have HO160 := n0_; have HB := n1_; clear n0_ n1_; (try clear hb); (try clear hb2); (try clear hk); (try clear hi); (try clear ho0)) | ((with_reducible refine gate_callee (f := 34) rfl ?_); refine goesL_ (some 53) rfl rfl Try.func34 (by kernel_rfl) rfl #[.slice A0 l0.length c0] rfl (by (try simp only [List.map_toArray, List.map_cons, List.map_nil]); first | done | rfl | (simp only [List.length_drop, List.length_take]; rfl)) ?_; (with_reducible refine (glossatorref4_ValidateOrder.calls k _ _ l0 t161 _ ?side1 ?side2 A11.out).mono ?_); (case side1 => repeat (first | exact (Kd.C_below HR0.out HB.out) | (with_reducible refine Kd.C_alloc ?_ _) | (with_reducible refine Kd.C_drewN ?_ _) | (with_reducible refine Kd.C_drew ?_))); (case side2 => exact HC0.out); rintro e w' ⟨rfl, ⟨nd, rfl⟩⟩; refine ⟨_, rfl, ?_⟩))
    (try simp only [Act.put, List.setIfInBounds_toArray, List.set_cons_zero, List.set_cons_succ])
    go_cut [62] (fun v62 wc => ∃ (kq : Nat) (x62_11 : Bool), v62 = .bool x62_11 ∧ Aside0 (glossatorlaw4_AnchorMapEqualsReference.j0 kq l0 a1 a2 a3 l4 t152 t153 t154 t155 t156 t157 t158 t161 t161 t161 0 0 0 ([] : List Int) x62_11 = some r) ∧ Aside0 (kq ≤ k) ∧ Aside0 (Kd.R (Kd.int .i64) 3 wc w.heap.size (fun k_ => some k_ ≠ ((.slice none 0 0) : Value).ownBlock) v159 t157) ∧ Aside0 (Kd.R (Kd.int .i64) 3 wc w.heap.size (fun k_ => some k_ ≠ (v159 : Value).ownBlock) (.slice none 0 0) ([] : List Int)) ∧ Aside0 (Below w.heap.size w wc))
    case first =>
      have H := HC12.out
      clear HC12
      by_cases c17 : t161 = 0
      · rw [if_pos c17] at H
        have c17b0 : (t161 == 0) = true := beq_iff_eq.mpr c17
        have c17b1 : (t161 != 0) = false := bne_eq_false_iff_eq.mpr c17
        clear c17
        (first | rw [c17b0] | (simp only [i64_w, i32_w]; rw [c17b0]) | skip)
        have H' := Aside0.mk H
        clear H
        go_wp2
        go_meet
        case rel => exact ⟨_, (decide (a1 < 0)), (by first | rfl | (simp; done) | (simp [*]; done) | (simp [isEmpty_bne]; done)), H', ⟨by first | omega | exact Nat.le_refl _⟩, ⟨by (with_reducible repeat (first | apply Kd.R_alloc | apply Kd.R_drewN | apply Kd.R_drew)); exact Kd.R_mono HO160.out (fun _ hk => (by simp [Value.ownBlock]))⟩, ⟨by first | exact Kd.R_nil _ _ _ _ _ | exact Kd.N_nil _ _ _ _ _ | exact Kd.V_nil _ _ _ _ _ | exact Kd.Q_nil _ _ _ _ _ | exact Kd.S_nil _ _ _ _ _⟩, ⟨by repeat (first | (with_reducible first | exact HB.out | apply below_alloc | apply pw_below_drewN | apply below_drew1) | exact HB.out)⟩⟩
      · rw [if_neg c17] at H
        have c17b0 : (t161 == 0) = false := beq_eq_false_iff_ne.mpr c17
        have c17b1 : (t161 != 0) = true := bne_iff_ne.mpr c17
        (first | rw [c17b0] | (simp only [i64_w, i32_w]; rw [c17b0]) | skip)
        have H' := Aside0.mk H
        clear H
        go_wp2
        go_meet
        case rel => exact ⟨_, (false), (by first | rfl | (simp; done) | (simp [*]; done) | (simp [isEmpty_bne]; done)), H', ⟨by first | omega | exact Nat.le_refl _⟩, ⟨by (with_reducible repeat (first | apply Kd.R_alloc | apply Kd.R_drewN | apply Kd.R_drew)); exact Kd.R_mono HO160.out (fun _ hk => (by simp [Value.ownBlock]))⟩, ⟨by first | exact Kd.R_nil _ _ _ _ _ | exact Kd.N_nil _ _ _ _ _ | exact Kd.V_nil _ _ _ _ _ | exact Kd.Q_nil _ _ _ _ _ | exact Kd.S_nil _ _ _ _ _⟩, ⟨by repeat (first | (with_reducible first | exact HB.out | apply below_alloc | apply pw_below_drewN | apply below_drew1) | exact HB.out)⟩⟩
    case rest =>
      clear HC12
      try clear c1
      try clear p2
      try clear c3
      try clear c4
      try clear c5
      try clear c7
      try clear c17
      try clear c17b0
      try clear c17b1
      obtain ⟨kq, x62_11, rfl, HA, HJ11, HO_16, HO_25, HB⟩ := hcut
      cases kq with
      | zero => exact absurd HA.out (by simp [glossatorlaw4_AnchorMapEqualsReference.j0])
      | succ kj11 =>
        have H := HA.out
        clear HA
        simp only [glossatorlaw4_AnchorMapEqualsReference.j0] at H
        have HC18 := Aside0.mk H
        clear H
        go_upto_if 62 with (fail)
        go_cut [19, 20] (fun v19 v20 wc => ∃ (kq : Nat) (x19_17 : Int) (x20_17 : Int), v19 = .int .i64 x19_17 ∧ v20 = .int .i64 x20_17 ∧ Aside0 (glossatorlaw4_AnchorMapEqualsReference.j1 kq l0 a1 a2 a3 l4 t152 t153 t154 t155 t156 t157 t158 x19_17 x20_17 t161 0 0 0 ([] : List Int) = some r) ∧ Aside0 (kq ≤ kj11) ∧ Aside0 (Kd.R (Kd.int .i64) 3 wc w.heap.size (fun k_ => some k_ ≠ ((.slice none 0 0) : Value).ownBlock) v159 t157) ∧ Aside0 (Kd.R (Kd.int .i64) 3 wc w.heap.size (fun k_ => some k_ ≠ (v159 : Value).ownBlock) (.slice none 0 0) ([] : List Int)) ∧ Aside0 (Below w.heap.size w wc))
        case first =>
          have H := HC18.out
          clear HC18
          by_cases c19 : x62_11 = true
          · subst c19
            have H1 : (glossatorlaw4_AnchorMapEqualsReference.j1 kj11 l0 a1 a2 a3 l4 t152 t153 t154 t155 t156 t157 t158 1 1 t161 0 0 0 ([] : List Int)) = some r := by rw [if_pos rfl] at H; exact H
            clear H
            have H := H1
            clear H1
            have H' := Aside0.mk H
            clear H
            go_wp2
            go_meet
            case rel => exact ⟨_, (1), (1), (by first | rfl | (simp; done) | (simp [*]; done) | (simp [isEmpty_bne]; done)), (by first | rfl | (simp; done) | (simp [*]; done) | (simp [isEmpty_bne]; done)), H', ⟨by have := HJ11.out; first | omega | exact Nat.le_refl _⟩, ⟨by (with_reducible repeat (first | apply Kd.R_alloc | apply Kd.R_drewN | apply Kd.R_drew)); exact HO_16.out⟩, ⟨by (with_reducible repeat (first | apply Kd.R_alloc | apply Kd.R_drewN | apply Kd.R_drew)); exact HO_25.out⟩, ⟨by repeat (first | (with_reducible first | exact HB.out | apply below_alloc | apply pw_below_drewN | apply below_drew1) | exact HB.out)⟩⟩
          · replace c19 := Bool.eq_false_iff.mpr c19
            subst c19
            have H1 : (glossatorlaw4_AnchorMapEqualsReference.j1 kj11 l0 a1 a2 a3 l4 t152 t153 t154 t155 t156 t157 t158 t161 t161 t161 0 0 0 ([] : List Int)) = some r := by rw [if_neg (show ¬ (false = true) by decide)] at H; exact H
            clear H
            have H := H1
            clear H1
            have H' := Aside0.mk H
            clear H
            go_wp2
            go_meet
            case rel => exact ⟨_, (t161), (t161), (by first | rfl | (simp; done) | (simp [*]; done) | (simp [isEmpty_bne]; done)), (by first | rfl | (simp; done) | (simp [*]; done) | (simp [isEmpty_bne]; done)), H', ⟨by have := HJ11.out; first | omega | exact Nat.le_refl _⟩, ⟨by (with_reducible repeat (first | apply Kd.R_alloc | apply Kd.R_drewN | apply Kd.R_drew)); exact HO_16.out⟩, ⟨by (with_reducible repeat (first | apply Kd.R_alloc | apply Kd.R_drewN | apply Kd.R_drew)); exact HO_25.out⟩, ⟨by repeat (first | (with_reducible first | exact HB.out | apply below_alloc | apply pw_below_drewN | apply below_drew1) | exact HB.out)⟩⟩
        case rest =>
          clear HC18
          try clear c1
          try clear p2
          try clear c3
          try clear c4
          try clear c5
          try clear c7
          try clear c17
          try clear c17b0
          try clear c17b1
          try clear c19
          try clear p2
          obtain ⟨kq, x19_17, x20_17, rfl, rfl, HA, HJ17, HO_16, HO_25, HB⟩ := hcut
          cases kq with
          | zero => exact absurd HA.out (by simp [glossatorlaw4_AnchorMapEqualsReference.j1])
          | succ kj17 =>
            have H := HA.out
            clear HA
            simp only [glossatorlaw4_AnchorMapEqualsReference.j1] at H
            have HC20 := Aside0.mk H
            clear H
            go_upto_region 12 with (fail)
            go_cut [69] (fun v69 wc => ∃ (kq : Nat) (x69_19 : Bool), v69 = .bool x69_19 ∧ Aside0 (glossatorlaw4_AnchorMapEqualsReference.j2 kq l0 a1 a2 a3 l4 t152 t153 t154 t155 t156 t157 t158 x19_17 x20_17 t161 0 0 0 ([] : List Int) x69_19 = some r) ∧ Aside0 (kq ≤ kj17) ∧ Aside0 (Kd.R (Kd.int .i64) 3 wc w.heap.size (fun k_ => some k_ ≠ ((.slice none 0 0) : Value).ownBlock) v159 t157) ∧ Aside0 (Kd.R (Kd.int .i64) 3 wc w.heap.size (fun k_ => some k_ ≠ (v159 : Value).ownBlock) (.slice none 0 0) ([] : List Int)) ∧ Aside0 (Below w.heap.size w wc))
            case first =>
              have H := HC20.out
              clear HC20
              by_cases c21 : x20_17 = 0
              · rw [if_pos c21] at H
                have c21b0 : (x20_17 == 0) = true := beq_iff_eq.mpr c21
                have c21b1 : (x20_17 != 0) = false := bne_eq_false_iff_eq.mpr c21
                clear c21
                (first | rw [c21b0] | (simp only [i64_w, i32_w]; rw [c21b0]) | skip)
                have H' := Aside0.mk H
                clear H
                go_wp2
                go_meet
                case rel => exact ⟨_, (decide (a2 < a1)), (by first | rfl | (simp; done) | (simp [*]; done) | (simp [isEmpty_bne]; done)), H', ⟨by have := HJ11.out; have := HJ17.out; first | omega | exact Nat.le_refl _⟩, ⟨by (with_reducible repeat (first | apply Kd.R_alloc | apply Kd.R_drewN | apply Kd.R_drew)); exact HO_16.out⟩, ⟨by (with_reducible repeat (first | apply Kd.R_alloc | apply Kd.R_drewN | apply Kd.R_drew)); exact HO_25.out⟩, ⟨by repeat (first | (with_reducible first | exact HB.out | apply below_alloc | apply pw_below_drewN | apply below_drew1) | exact HB.out)⟩⟩
              · rw [if_neg c21] at H
                have c21b0 : (x20_17 == 0) = false := beq_eq_false_iff_ne.mpr c21
                have c21b1 : (x20_17 != 0) = true := bne_iff_ne.mpr c21
                (first | rw [c21b0] | (simp only [i64_w, i32_w]; rw [c21b0]) | skip)
                have H' := Aside0.mk H
                clear H
                go_wp2
                go_meet
                case rel => exact ⟨_, (false), (by first | rfl | (simp; done) | (simp [*]; done) | (simp [isEmpty_bne]; done)), H', ⟨by have := HJ11.out; have := HJ17.out; first | omega | exact Nat.le_refl _⟩, ⟨by (with_reducible repeat (first | apply Kd.R_alloc | apply Kd.R_drewN | apply Kd.R_drew)); exact HO_16.out⟩, ⟨by (with_reducible repeat (first | apply Kd.R_alloc | apply Kd.R_drewN | apply Kd.R_drew)); exact HO_25.out⟩, ⟨by repeat (first | (with_reducible first | exact HB.out | apply below_alloc | apply pw_below_drewN | apply below_drew1) | exact HB.out)⟩⟩
            case rest =>
              clear HC20
              try clear c1
              try clear c2
              try clear p2
              try clear c3
              try clear c4
              try clear c5
              try clear c7
              try clear c17
              try clear c17b0
              try clear c17b1
              try clear c19
              try clear c21
              try clear c21b0
              try clear c21b1
              try clear p2
              obtain ⟨kq, x69_19, rfl, HA, HJ19, HO_16, HO_25, HB⟩ := hcut
              cases kq with
              | zero => exact absurd HA.out (by simp [glossatorlaw4_AnchorMapEqualsReference.j2])
              | succ kj19 =>
                have H := HA.out
                clear HA
                simp only [glossatorlaw4_AnchorMapEqualsReference.j2] at H
                have HC22 := Aside0.mk H
                clear H
                go_upto_if 69 with (fail)
                go_cut [20] (fun v20 wc => ∃ (kq : Nat) (x20_21 : Int), v20 = .int .i64 x20_21 ∧ Aside0 (glossatorlaw4_AnchorMapEqualsReference.j3 kq l0 a1 a2 a3 l4 t152 t153 t154 t155 t156 t157 t158 x19_17 x20_21 t161 0 0 0 ([] : List Int) = some r) ∧ Aside0 (kq ≤ kj19) ∧ Aside0 (Kd.R (Kd.int .i64) 3 wc w.heap.size (fun k_ => some k_ ≠ ((.slice none 0 0) : Value).ownBlock) v159 t157) ∧ Aside0 (Kd.R (Kd.int .i64) 3 wc w.heap.size (fun k_ => some k_ ≠ (v159 : Value).ownBlock) (.slice none 0 0) ([] : List Int)) ∧ Aside0 (Below w.heap.size w wc))
                case first =>
                  have H := HC22.out
                  clear HC22
                  by_cases c23 : x69_19 = true
                  · subst c23
                    have H1 : (glossatorlaw4_AnchorMapEqualsReference.j3 kj19 l0 a1 a2 a3 l4 t152 t153 t154 t155 t156 t157 t158 x19_17 1 t161 0 0 0 ([] : List Int)) = some r := by rw [if_pos rfl] at H; exact H
                    clear H
                    have H := H1
                    clear H1
                    have H' := Aside0.mk H
                    clear H
                    go_wp2
                    go_meet
                    case rel => exact ⟨_, (1), (by first | rfl | (simp; done) | (simp [*]; done) | (simp [isEmpty_bne]; done)), H', ⟨by have := HJ11.out; have := HJ17.out; have := HJ19.out; first | omega | exact Nat.le_refl _⟩, ⟨by (with_reducible repeat (first | apply Kd.R_alloc | apply Kd.R_drewN | apply Kd.R_drew)); exact HO_16.out⟩, ⟨by (with_reducible repeat (first | apply Kd.R_alloc | apply Kd.R_drewN | apply Kd.R_drew)); exact HO_25.out⟩, ⟨by repeat (first | (with_reducible first | exact HB.out | apply below_alloc | apply pw_below_drewN | apply below_drew1) | exact HB.out)⟩⟩
                  · replace c23 := Bool.eq_false_iff.mpr c23
                    subst c23
                    have H1 : (glossatorlaw4_AnchorMapEqualsReference.j3 kj19 l0 a1 a2 a3 l4 t152 t153 t154 t155 t156 t157 t158 x19_17 x20_17 t161 0 0 0 ([] : List Int)) = some r := by rw [if_neg (show ¬ (false = true) by decide)] at H; exact H
                    clear H
                    have H := H1
                    clear H1
                    have H' := Aside0.mk H
                    clear H
                    go_wp2
                    go_meet
                    case rel => exact ⟨_, (x20_17), (by first | rfl | (simp; done) | (simp [*]; done) | (simp [isEmpty_bne]; done)), H', ⟨by have := HJ11.out; have := HJ17.out; have := HJ19.out; first | omega | exact Nat.le_refl _⟩, ⟨by (with_reducible repeat (first | apply Kd.R_alloc | apply Kd.R_drewN | apply Kd.R_drew)); exact HO_16.out⟩, ⟨by (with_reducible repeat (first | apply Kd.R_alloc | apply Kd.R_drewN | apply Kd.R_drew)); exact HO_25.out⟩, ⟨by repeat (first | (with_reducible first | exact HB.out | apply below_alloc | apply pw_below_drewN | apply below_drew1) | exact HB.out)⟩⟩
                case rest =>
                  clear HC22
                  try clear c1
                  try clear c2
                  try clear p2
                  try clear c3
                  try clear c4
                  try clear c5
                  try clear c7
                  try clear c17
                  try clear c17b0
                  try clear c17b1
                  try clear c19
                  try clear c21
                  try clear c21b0
                  try clear c21b1
                  try clear c23
                  try clear p2
                  obtain ⟨kq, x20_21, rfl, HA, HJ21, HO_16, HO_25, HB⟩ := hcut
                  cases kq with
                  | zero => exact absurd HA.out (by simp [glossatorlaw4_AnchorMapEqualsReference.j3])
                  | succ kj21 =>
                    have H := HA.out
                    clear HA
                    simp only [glossatorlaw4_AnchorMapEqualsReference.j3] at H
                    have HC24 := Aside0.mk H
                    clear H
                    go_upto_if 71 with (fail)
                    go_cut [22] (fun v22 wc => ∃ (kq : Nat) (x22_23 : Int), v22 = .int .i64 x22_23 ∧ Aside0 (glossatorlaw4_AnchorMapEqualsReference.j4 kq l0 a1 a2 a3 l4 t152 t153 t154 t155 t156 t157 t158 x19_17 x20_21 t161 x22_23 0 0 ([] : List Int) = some r) ∧ Aside0 (kq ≤ kj21) ∧ Aside0 (Kd.R (Kd.int .i64) 3 wc w.heap.size (fun k_ => some k_ ≠ ((.slice none 0 0) : Value).ownBlock) v159 t157) ∧ Aside0 (Kd.R (Kd.int .i64) 3 wc w.heap.size (fun k_ => some k_ ≠ (v159 : Value).ownBlock) (.slice none 0 0) ([] : List Int)) ∧ Aside0 (Below w.heap.size w wc))
                    case first =>
                      have H := HC24.out
                      clear HC24
                      by_cases c25 : x19_17 = 0
                      · rw [if_pos c25] at H
                        have c25b0 : (x19_17 == 0) = true := beq_iff_eq.mpr c25
                        have c25b1 : (x19_17 != 0) = false := bne_eq_false_iff_eq.mpr c25
                        clear c25
                        (first | rw [c25b0] | (simp only [i64_w, i32_w]; rw [c25b0]) | skip)
                        replace H := Option.bind_eq_some_iff.mp H
                        obtain ⟨t162, A260, H⟩ := H
                        replace H : (glossatorlaw4_AnchorMapEqualsReference.j4 kj21 l0 a1 a2 a3 l4 t152 t153 t154 t155 t156 t157 t158 x19_17 x20_21 t161 t162 0 0 ([] : List Int)) = some r := H
                        have A26 := Aside0.mk A260
                        clear A260
                        have H' := Aside0.mk H
                        clear H
                        go_wp2_with (first | ((with_reducible refine gate_callee (f := 35) rfl ?_); refine goesL_ (some 75) rfl rfl Try.func35 (by kernel_rfl) rfl #[.slice A0 l0.length c0, .int .i64 a1, .bool a3] rfl (by (try simp only [List.map_toArray, List.map_cons, List.map_nil]); first | done | rfl | (simp only [List.length_drop, List.length_take]; rfl)) ?_; (with_reducible refine (glossatorref4_MapOffset.calls kj21 _ _ l0 a1 a3 t162 _ ?side1 ?side2 A26.out).mono ?_); (case side1 => repeat (first | exact (Kd.C_below HR0.out HB.out) | (with_reducible refine Kd.C_alloc ?_ _) | (with_reducible refine Kd.C_drewN ?_ _) | (with_reducible refine Kd.C_drew ?_))); (case side2 => exact HC0.out); rintro e w27 ⟨rfl, hb⟩; refine ⟨_, rfl, ?_⟩; have n0_ := Aside0.mk (Kd.R_below (by (with_reducible repeat (first | apply Kd.R_alloc | apply Kd.R_drewN | apply Kd.R_drew)); exact HO_16.out) hb); have n1_ := Aside0.mk (Kd.R_below (by (with_reducible repeat (first | apply Kd.R_alloc | apply Kd.R_drewN | apply Kd.R_drew)); exact HO_25.out) hb); have n2_ := Aside0.mk (below_step (by repeat (first | (with_reducible first | exact HB.out | apply below_alloc | apply pw_below_drewN | apply below_drew1) | exact HB.out)) hb); clear HO_16; clear HO_25; clear HB; have HO_16 := n0_; have HO_25 := n1_; have HB := n2_; clear n0_ n1_ n2_; (try clear hb); (try clear hb2); (try clear hk); (try clear hi)))
                        go_meet
                        case rel => exact ⟨_, (t162), (by first | rfl | (simp; done) | (simp [*]; done) | (simp [isEmpty_bne]; done)), H', ⟨by have := HJ11.out; have := HJ17.out; have := HJ19.out; have := HJ21.out; first | omega | exact Nat.le_refl _⟩, ⟨by (with_reducible repeat (first | apply Kd.R_alloc | apply Kd.R_drewN | apply Kd.R_drew)); exact HO_16.out⟩, ⟨by (with_reducible repeat (first | apply Kd.R_alloc | apply Kd.R_drewN | apply Kd.R_drew)); exact HO_25.out⟩, ⟨by repeat (first | (with_reducible first | exact HB.out | apply below_alloc | apply pw_below_drewN | apply below_drew1) | exact HB.out)⟩⟩
                      · rw [if_neg c25] at H
                        have c25b0 : (x19_17 == 0) = false := beq_eq_false_iff_ne.mpr c25
                        have c25b1 : (x19_17 != 0) = true := bne_iff_ne.mpr c25
                        (first | rw [c25b0] | (simp only [i64_w, i32_w]; rw [c25b0]) | skip)
                        have H' := Aside0.mk H
                        clear H
                        go_wp2
                        go_meet
                        case rel => exact ⟨_, (0), (by first | rfl | (simp; done) | (simp [*]; done) | (simp [isEmpty_bne]; done)), H', ⟨by have := HJ11.out; have := HJ17.out; have := HJ19.out; have := HJ21.out; first | omega | exact Nat.le_refl _⟩, ⟨by (with_reducible repeat (first | apply Kd.R_alloc | apply Kd.R_drewN | apply Kd.R_drew)); exact HO_16.out⟩, ⟨by (with_reducible repeat (first | apply Kd.R_alloc | apply Kd.R_drewN | apply Kd.R_drew)); exact HO_25.out⟩, ⟨by repeat (first | (with_reducible first | exact HB.out | apply below_alloc | apply pw_below_drewN | apply below_drew1) | exact HB.out)⟩⟩
                    case rest =>
                      clear HC24
                      try clear c1
                      try clear c2
                      try clear p2
                      try clear c3
                      try clear c4
                      try clear c5
                      try clear c7
                      try clear c17
                      try clear c17b0
                      try clear c17b1
                      try clear c19
                      try clear c21
                      try clear c21b0
                      try clear c21b1
                      try clear c23
                      try clear c25
                      try clear c25b0
                      try clear c25b1
                      try clear p2
                      obtain ⟨kq, x22_23, rfl, HA, HJ23, HO_16, HO_25, HB⟩ := hcut
                      cases kq with
                      | zero => exact absurd HA.out (by simp [glossatorlaw4_AnchorMapEqualsReference.j4])
                      | succ kj23 =>
                        have H := HA.out
                        clear HA
                        simp only [glossatorlaw4_AnchorMapEqualsReference.j4] at H
                        have HC28 := Aside0.mk H
                        clear H
                        go_upto_if 77 with (fail)
                        go_cut [23, 24] (fun v23 v24 wc => ∃ (kq : Nat) (x23_27 : Int) (x24_27 : Int), v23 = .int .i64 x23_27 ∧ v24 = .int .i64 x24_27 ∧ Aside0 (glossatorlaw4_AnchorMapEqualsReference.j5 kq l0 a3 l4 t152 t153 t154 t155 t156 t157 t158 x19_17 x20_21 t161 x22_23 x23_27 x24_27 ([] : List Int) = some r) ∧ Aside0 (kq ≤ kj23) ∧ Aside0 (Kd.R (Kd.int .i64) 3 wc w.heap.size (fun k_ => some k_ ≠ ((.slice none 0 0) : Value).ownBlock) v159 t157) ∧ Aside0 (Kd.R (Kd.int .i64) 3 wc w.heap.size (fun k_ => some k_ ≠ (v159 : Value).ownBlock) (.slice none 0 0) ([] : List Int)) ∧ Aside0 (Below w.heap.size w wc))
                        case first =>
                          have H := HC28.out
                          clear HC28
                          by_cases c29 : x20_21 = 0
                          · rw [if_pos c29] at H
                            have c29b0 : (x20_21 == 0) = true := beq_iff_eq.mpr c29
                            have c29b1 : (x20_21 != 0) = false := bne_eq_false_iff_eq.mpr c29
                            clear c29
                            (first | rw [c29b0] | (simp only [i64_w, i32_w]; rw [c29b0]) | skip)
                            replace H := Option.bind_eq_some_iff.mp H
                            obtain ⟨t163, A300, H⟩ := H
                            replace H : ((glossatorref4_MapOffset.f kj23 l0 a2 a3).bind fun t164 => (glossatorlaw4_AnchorMapEqualsReference.j5 kj23 l0 a3 l4 t152 t153 t154 t155 t156 t157 t158 x19_17 x20_21 t161 x22_23 t163 (mx t163 t164) ([] : List Int))) = some r := H
                            have A30 := Aside0.mk A300
                            clear A300
                            replace H := Option.bind_eq_some_iff.mp H
                            obtain ⟨t164, A310, H⟩ := H
                            replace H : (glossatorlaw4_AnchorMapEqualsReference.j5 kj23 l0 a3 l4 t152 t153 t154 t155 t156 t157 t158 x19_17 x20_21 t161 x22_23 t163 (mx t163 t164) ([] : List Int)) = some r := H
                            have A31 := Aside0.mk A310
                            clear A310
                            obtain ⟨ji32, hji32⟩ : ∃ j_ : Int, (mx t163 t164) = j_ := ⟨_, rfl⟩
                            replace H : (glossatorlaw4_AnchorMapEqualsReference.j5 kj23 l0 a3 l4 t152 t153 t154 t155 t156 t157 t158 x19_17 x20_21 t161 x22_23 t163 ji32 ([] : List Int)) = some r := by first | (rw [hji32] at H; exact H) | (simp only [hji32] at H ⊢; exact H)
                            (try rw [hji32] at A30)
                            (try rw [hji32] at A31)
                            have hji32_ : (if t163 < t164 then t164 else t163) = ji32 := hji32
                            have H' := Aside0.mk H
                            clear H
                            go_wp2_with (first | ((with_reducible refine gate_callee (f := 35) rfl ?_); refine goesL_ (some 82) rfl rfl Try.func35 (by kernel_rfl) rfl #[.slice A0 l0.length c0, .int .i64 a1, .bool (!a3)] rfl (by (try simp only [List.map_toArray, List.map_cons, List.map_nil]); first | done | rfl | (simp only [List.length_drop, List.length_take]; rfl)) ?_; (with_reducible refine (glossatorref4_MapOffset.calls kj23 _ _ l0 a1 (!a3) t163 _ ?side1 ?side2 A30.out).mono ?_); (case side1 => repeat (first | exact (Kd.C_below HR0.out HB.out) | (with_reducible refine Kd.C_alloc ?_ _) | (with_reducible refine Kd.C_drewN ?_ _) | (with_reducible refine Kd.C_drew ?_))); (case side2 => exact HC0.out); rintro e w33 ⟨rfl, hb⟩; refine ⟨_, rfl, ?_⟩; have n0_ := Aside0.mk (Kd.R_below (by (with_reducible repeat (first | apply Kd.R_alloc | apply Kd.R_drewN | apply Kd.R_drew)); exact HO_16.out) hb); have n1_ := Aside0.mk (Kd.R_below (by (with_reducible repeat (first | apply Kd.R_alloc | apply Kd.R_drewN | apply Kd.R_drew)); exact HO_25.out) hb); have n2_ := Aside0.mk (below_step (by repeat (first | (with_reducible first | exact HB.out | apply below_alloc | apply pw_below_drewN | apply below_drew1) | exact HB.out)) hb); clear HO_16; clear HO_25; clear HB; have HO_16 := n0_; have HO_25 := n1_; have HB := n2_; clear n0_ n1_ n2_; (try clear hb); (try clear hb2); (try clear hk); (try clear hi)) | ((with_reducible refine gate_callee (f := 35) rfl ?_); refine goesL_ (some 87) rfl rfl Try.func35 (by kernel_rfl) rfl #[.slice A0 l0.length c0, .int .i64 a2, .bool a3] rfl (by (try simp only [List.map_toArray, List.map_cons, List.map_nil]); first | done | rfl | (simp only [List.length_drop, List.length_take]; rfl)) ?_; (with_reducible refine (glossatorref4_MapOffset.calls kj23 _ _ l0 a2 a3 t164 _ ?side1 ?side2 A31.out).mono ?_); (case side1 => repeat (first | exact (Kd.C_below HR0.out HB.out) | (with_reducible refine Kd.C_alloc ?_ _) | (with_reducible refine Kd.C_drewN ?_ _) | (with_reducible refine Kd.C_drew ?_))); (case side2 => exact HC0.out); rintro e w34 ⟨rfl, hb⟩; refine ⟨_, rfl, ?_⟩; have n0_ := Aside0.mk (Kd.R_below (by (with_reducible repeat (first | apply Kd.R_alloc | apply Kd.R_drewN | apply Kd.R_drew)); exact HO_16.out) hb); have n1_ := Aside0.mk (Kd.R_below (by (with_reducible repeat (first | apply Kd.R_alloc | apply Kd.R_drewN | apply Kd.R_drew)); exact HO_25.out) hb); have n2_ := Aside0.mk (below_step (by repeat (first | (with_reducible first | exact HB.out | apply below_alloc | apply pw_below_drewN | apply below_drew1) | exact HB.out)) hb); clear HO_16; clear HO_25; clear HB; have HO_16 := n0_; have HO_25 := n1_; have HB := n2_; clear n0_ n1_ n2_; (try clear hb); (try clear hb2); (try clear hk); (try clear hi)))
                            go_meet
                            case rel => exact ⟨_, (t163), (ji32), (by first | rfl | (simp; done) | (simp [*]; done) | (simp [isEmpty_bne]; done)), (by first | rfl | (simp; done) | (simp only [← hji32] <;> (first | rfl | simp)) | (simp [*]; done)), H', ⟨by have := HJ11.out; have := HJ17.out; have := HJ19.out; have := HJ21.out; have := HJ23.out; first | omega | exact Nat.le_refl _⟩, ⟨by (with_reducible repeat (first | apply Kd.R_alloc | apply Kd.R_drewN | apply Kd.R_drew)); exact HO_16.out⟩, ⟨by (with_reducible repeat (first | apply Kd.R_alloc | apply Kd.R_drewN | apply Kd.R_drew)); exact HO_25.out⟩, ⟨by repeat (first | (with_reducible first | exact HB.out | apply below_alloc | apply pw_below_drewN | apply below_drew1) | exact HB.out)⟩⟩
                          · rw [if_neg c29] at H
                            have c29b0 : (x20_21 == 0) = false := beq_eq_false_iff_ne.mpr c29
                            have c29b1 : (x20_21 != 0) = true := bne_iff_ne.mpr c29
                            (first | rw [c29b0] | (simp only [i64_w, i32_w]; rw [c29b0]) | skip)
                            have H' := Aside0.mk H
                            clear H
                            go_wp2
                            go_meet
                            case rel => exact ⟨_, (0), (0), (by first | rfl | (simp; done) | (simp [*]; done) | (simp [isEmpty_bne]; done)), (by first | rfl | (simp; done) | (simp [*]; done) | (simp [isEmpty_bne]; done)), H', ⟨by have := HJ11.out; have := HJ17.out; have := HJ19.out; have := HJ21.out; have := HJ23.out; first | omega | exact Nat.le_refl _⟩, ⟨by (with_reducible repeat (first | apply Kd.R_alloc | apply Kd.R_drewN | apply Kd.R_drew)); exact HO_16.out⟩, ⟨by (with_reducible repeat (first | apply Kd.R_alloc | apply Kd.R_drewN | apply Kd.R_drew)); exact HO_25.out⟩, ⟨by repeat (first | (with_reducible first | exact HB.out | apply below_alloc | apply pw_below_drewN | apply below_drew1) | exact HB.out)⟩⟩
                        case rest =>
                          clear HC28
                          try clear c1
                          try clear c2
                          try clear p2
                          try clear c3
                          try clear c4
                          try clear c5
                          try clear c7
                          try clear c17
                          try clear c17b0
                          try clear c17b1
                          try clear c19
                          try clear c21
                          try clear c21b0
                          try clear c21b1
                          try clear c23
                          try clear c25
                          try clear c25b0
                          try clear c25b1
                          try clear c29
                          try clear c29b0
                          try clear c29b1
                          try clear c30
                          try clear c31
                          try clear c32
                          try clear c33
                          try clear c34
                          try clear p2
                          obtain ⟨kq, x23_27, x24_27, rfl, rfl, HA, HJ27, HO_16, HO_25, HB⟩ := hcut
                          cases kq with
                          | zero => exact absurd HA.out (by simp [glossatorlaw4_AnchorMapEqualsReference.j5])
                          | succ kj27 =>
                            have H := HA.out
                            clear HA
                            simp only [glossatorlaw4_AnchorMapEqualsReference.j5] at H
                            have H' := Aside0.mk H
                            clear H
                            go_wp2
                            go_loopg [21, 25, 26] kj27 (fun kq v21 v25 v26 w' => ∃ (x21_7 : Int) (x25_7 : List Int) (x26_7 : Int), v21 = .int .i64 x21_7 ∧ v26 = .int .i64 x26_7 ∧ Aside0 (glossatorlaw4_AnchorMapEqualsReference.l0 kq l0 a3 l4 t152 t153 t154 t155 t156 t157 t158 x19_17 x20_21 x21_7 x22_23 x23_27 x24_27 x25_7 x26_7 = some r) ∧ Aside0 (kq ≤ kj27) ∧ Aside0 (Kd.R (Kd.int .i64) 3 w' w.heap.size (fun k_ => some k_ ≠ (v25 : Value).ownBlock) v159 t157) ∧ Aside0 (Kd.R (Kd.int .i64) 3 w' w.heap.size (fun k_ => some k_ ≠ (v159 : Value).ownBlock) v25 x25_7) ∧ Aside0 (Below w.heap.size w w'))
                            case atStart => exact ⟨(t161), (([] : List Int)), (0), (by first | rfl | (simp; done) | (simp [*]; done) | (simp [isEmpty_bne]; done)), (by first | rfl | (simp; done) | (simp [*]; done) | (simp [isEmpty_bne]; done)), H', ⟨Nat.le_refl _⟩, ⟨by (with_reducible repeat (first | apply Kd.R_alloc | apply Kd.R_drewN | apply Kd.R_drew)); exact HO_16.out⟩, ⟨by (with_reducible repeat (first | apply Kd.R_alloc | apply Kd.R_drewN | apply Kd.R_drew)); exact HO_25.out⟩, ⟨by repeat (first | (with_reducible first | exact HB.out | apply below_alloc | apply pw_below_drewN | apply below_drew1) | exact HB.out)⟩⟩
                            case round =>
                              clear H'
                              try clear c1
                              try clear c2
                              try clear p2
                              try clear c3
                              try clear c4
                              try clear c5
                              try clear c7
                              try clear c17
                              try clear c17b0
                              try clear c17b1
                              try clear c19
                              try clear c21
                              try clear c21b0
                              try clear c21b1
                              try clear c23
                              try clear c25
                              try clear c25b0
                              try clear c25b1
                              try clear c29
                              try clear c29b0
                              try clear c29b1
                              try clear c30
                              try clear c31
                              try clear c32
                              try clear c33
                              try clear c34
                              try clear p2
                              obtain ⟨x21_7, x25_7, x26_7, rfl, rfl, HA, HK7, HO_16, HO_25, HB⟩ := hrel
                              cases gk with
                              | zero => exact absurd HA.out (by simp [glossatorlaw4_AnchorMapEqualsReference.l0])
                              | succ k7 =>
                                have H := HA.out
                                clear HA
                                simp only [glossatorlaw4_AnchorMapEqualsReference.l0] at H
                                have HC35 := Aside0.mk H
                                clear H
                                go_upto_region 20 with (fail)
                                go_cut [96] (fun v96 wc => ∃ (kq : Nat) (x96_34 : Bool), v96 = .bool x96_34 ∧ Aside0 (glossatorlaw4_AnchorMapEqualsReference.j7 kq l0 a3 l4 t152 t153 t154 t155 t156 t157 t158 x19_17 x20_21 x21_7 x22_23 x23_27 x24_27 x25_7 x26_7 x96_34 = some r) ∧ Aside0 (kq ≤ k7) ∧ Aside0 (Kd.R (Kd.int .i64) 3 wc w.heap.size (fun k_ => some k_ ≠ (u25 : Value).ownBlock) v159 t157) ∧ Aside0 (Kd.R (Kd.int .i64) 3 wc w.heap.size (fun k_ => some k_ ≠ (v159 : Value).ownBlock) u25 x25_7) ∧ Aside0 (Below w.heap.size w wc))
                                case first =>
                                  have H := HC35.out
                                  clear HC35
                                  by_cases c36 : x26_7 < (l4.length : Int)
                                  · rw [if_pos c36] at H
                                    have c36b0 : decide (x26_7 < (l4.length : Int)) = true := decide_eq_true c36
                                    clear c36
                                    (first | rw [c36b0] | (simp only [i64_w, i32_w]; rw [c36b0]) | skip)
                                    have H' := Aside0.mk H
                                    clear H
                                    go_wp2
                                    go_meet
                                    case rel => exact ⟨_, ((x21_7 == 0)), (by first | rfl | (simp; done) | (simp [*]; done) | (simp [isEmpty_bne]; done)), H', ⟨by have := HJ11.out; have := HJ17.out; have := HJ19.out; have := HJ21.out; have := HJ23.out; have := HJ27.out; have := HK7.out; first | omega | exact Nat.le_refl _⟩, ⟨by (with_reducible repeat (first | apply Kd.R_alloc | apply Kd.R_drewN | apply Kd.R_drew)); exact HO_16.out⟩, ⟨by (with_reducible repeat (first | apply Kd.R_alloc | apply Kd.R_drewN | apply Kd.R_drew)); exact HO_25.out⟩, ⟨by repeat (first | (with_reducible first | exact HB.out | apply below_alloc | apply pw_below_drewN | apply below_drew1) | exact HB.out)⟩⟩
                                  · rw [if_neg c36] at H
                                    have c36b0 : decide (x26_7 < (l4.length : Int)) = false := decide_eq_false c36
                                    clear c36
                                    (first | rw [c36b0] | (simp only [i64_w, i32_w]; rw [c36b0]) | skip)
                                    have H' := Aside0.mk H
                                    clear H
                                    go_wp2
                                    go_meet
                                    case rel => exact ⟨_, (false), (by first | rfl | (simp; done) | (simp [*]; done) | (simp [isEmpty_bne]; done)), H', ⟨by have := HJ11.out; have := HJ17.out; have := HJ19.out; have := HJ21.out; have := HJ23.out; have := HJ27.out; have := HK7.out; first | omega | exact Nat.le_refl _⟩, ⟨by (with_reducible repeat (first | apply Kd.R_alloc | apply Kd.R_drewN | apply Kd.R_drew)); exact HO_16.out⟩, ⟨by (with_reducible repeat (first | apply Kd.R_alloc | apply Kd.R_drewN | apply Kd.R_drew)); exact HO_25.out⟩, ⟨by repeat (first | (with_reducible first | exact HB.out | apply below_alloc | apply pw_below_drewN | apply below_drew1) | exact HB.out)⟩⟩
                                case rest =>
                                  clear HC35
                                  try clear c1
                                  try clear c2
                                  try clear p2
                                  try clear c3
                                  try clear c4
                                  try clear c5
                                  try clear c7
                                  try clear c17
                                  try clear c17b0
                                  try clear c17b1
                                  try clear c19
                                  try clear c21
                                  try clear c21b0
                                  try clear c21b1
                                  try clear c23
                                  try clear c25
                                  try clear c25b0
                                  try clear c25b1
                                  try clear c29
                                  try clear c29b0
                                  try clear c29b1
                                  try clear c30
                                  try clear c31
                                  try clear c32
                                  try clear c33
                                  try clear c34
                                  try clear c35
                                  try clear c36
                                  try clear c36b0
                                  try clear p2
                                  obtain ⟨kq, x96_34, rfl, HA, HJ34, HO_16, HO_25, HB⟩ := hcut
                                  cases kq with
                                  | zero => exact absurd HA.out (by simp [glossatorlaw4_AnchorMapEqualsReference.j7])
                                  | succ kj34 =>
                                    have H := HA.out
                                    clear HA
                                    simp only [glossatorlaw4_AnchorMapEqualsReference.j7] at H
                                    by_cases c37 : x96_34 = true
                                    · subst c37
                                      have H1 : (if 0 ≤ x26_7 then (if x26_7 < (l4.length : Int) then (if (rd l4 x26_7) < 0 then (glossatorlaw4_AnchorMapEqualsReference.l0 kj34 l0 a3 l4 t152 t153 t154 t155 t156 t157 t158 x19_17 x20_21 1 x22_23 x23_27 x24_27 ([] : List Int) (wrap64 (x26_7 + 1))) else ((glossatorref4_MapOffset.f kj34 l0 (rd l4 x26_7) a3).bind fun t167 => (if x25_7.length < 17592186044416 then (glossatorlaw4_AnchorMapEqualsReference.l0 kj34 l0 a3 l4 t152 t153 t154 t155 t156 t157 t158 x19_17 x20_21 x21_7 x22_23 x23_27 x24_27 (x25_7 ++ [t167]) (wrap64 (x26_7 + 1))) else (none)))) else (none)) else (none)) = some r := by rw [if_pos rfl] at H; exact H
                                      clear H
                                      have H := H1
                                      clear H1
                                      by_cases c38 : 0 ≤ x26_7
                                      · rw [if_pos c38] at H
                                        have c38b0 : decide (0 ≤ x26_7) = true := decide_eq_true c38
                                        clear c38
                                        by_cases c39 : x26_7 < (l4.length : Int)
                                        · rw [if_pos c39] at H
                                          have c39b0 : decide (x26_7 < (l4.length : Int)) = true := decide_eq_true c39
                                          clear c39
                                          by_cases c40 : (rd l4 x26_7) < 0
                                          · rw [if_pos c40] at H
                                            have c40b0 : decide ((rd l4 x26_7) < 0) = true := decide_eq_true c40
                                            clear c40
                                            have H' := Aside0.mk H
                                            clear H
                                            have p165 : 0 ≤ (x26_7 : Int) := of_decide_eq_true (by first | (with_reducible assumption) | assumption)
                                            have q165 : x26_7 < (l4.length : Int) := of_decide_eq_true (by first | (with_reducible assumption) | assumption)
                                            obtain ⟨ad165, e165, hx165_0⟩ := Kd.at_int HR4.out x26_7 p165 q165
                                            cases e165
                                            replace hx165_0 := (HB.out.cell (World.block_lt_of_cell? w _ hx165_0)).trans hx165_0
                                            replace p165 := eq_true p165
                                            replace q165 := eq_true q165
                                            go_wp2
                                            go_roundg kj34
                                            case measure => have := HJ11.out; have := HJ17.out; have := HJ19.out; have := HJ21.out; have := HJ23.out; have := HJ27.out; have := HK7.out; have := HJ34.out; omega
                                            case rel => exact ⟨(1), (([] : List Int)), (wrap64 (x26_7 + 1)), (by first | rfl | (simp; done) | (simp [*]; done) | (simp [isEmpty_bne]; done)), (by first | rfl | (simp; done) | (simp [*]; done) | (simp [isEmpty_bne]; done)), H', ⟨by have := HJ11.out; have := HJ17.out; have := HJ19.out; have := HJ21.out; have := HJ23.out; have := HJ27.out; have := HK7.out; have := HJ34.out; omega⟩, ⟨by (with_reducible repeat (first | apply Kd.R_alloc | apply Kd.R_drewN | apply Kd.R_drew)); exact Kd.R_mono HO_16.out (fun _ hk => (by simp [Value.ownBlock]))⟩, ⟨by first | exact Kd.R_nil _ _ _ _ _ | exact Kd.N_nil _ _ _ _ _ | exact Kd.V_nil _ _ _ _ _ | exact Kd.Q_nil _ _ _ _ _ | exact Kd.S_nil _ _ _ _ _⟩, ⟨by repeat (first | (with_reducible first | exact HB.out | apply below_alloc | apply pw_below_drewN | apply below_drew1) | exact HB.out)⟩⟩
                                          · rw [if_neg c40] at H
                                            have c40b0 : decide ((rd l4 x26_7) < 0) = false := decide_eq_false c40
                                            clear c40
                                            replace H := Option.bind_eq_some_iff.mp H
                                            obtain ⟨t167, A410, H⟩ := H
                                            replace H : (if x25_7.length < 17592186044416 then (glossatorlaw4_AnchorMapEqualsReference.l0 kj34 l0 a3 l4 t152 t153 t154 t155 t156 t157 t158 x19_17 x20_21 x21_7 x22_23 x23_27 x24_27 (x25_7 ++ [t167]) (wrap64 (x26_7 + 1))) else (none)) = some r := H
                                            have A41 := Aside0.mk A410
                                            clear A410
                                            by_cases c42 : x25_7.length < 17592186044416
                                            · rw [if_pos c42] at H
                                              have LMc42 := Aside0.mk c42
                                              clear c42
                                              obtain ⟨y168, hy168⟩ : ∃ y_ : List Int, y_ = (x25_7 ++ [t167]) := ⟨_, rfl⟩
                                              replace H : (glossatorlaw4_AnchorMapEqualsReference.l0 kj34 l0 a3 l4 t152 t153 t154 t155 t156 t157 t158 x19_17 x20_21 x21_7 x22_23 x23_27 x24_27 y168 (wrap64 (x26_7 + 1))) = some r := by first | (rw [hy168]; with_reducible exact H) | (have H2_ := (Option.bind_some _ _).symm.trans H; rw [hy168]; with_reducible exact H2_) | (have H2_ := (Option.bind_some _ _).symm.trans H; with_reducible exact H2_) | with_reducible exact H | (rw [hy168]; exact H) | exact H
                                              have Ny168 := Aside0.mk hy168
                                              clear hy168
                                              have H' := Aside0.mk H
                                              clear H
                                              have p165 : 0 ≤ (x26_7 : Int) := of_decide_eq_true (by first | (with_reducible assumption) | assumption)
                                              have q165 : x26_7 < (l4.length : Int) := of_decide_eq_true (by first | (with_reducible assumption) | assumption)
                                              obtain ⟨ad165, e165, hx165_0⟩ := Kd.at_int HR4.out x26_7 p165 q165
                                              cases e165
                                              replace hx165_0 := (HB.out.cell (World.block_lt_of_cell? w _ hx165_0)).trans hx165_0
                                              replace p165 := eq_true p165
                                              replace q165 := eq_true q165
                                              have p166 : 0 ≤ (x26_7 : Int) := of_decide_eq_true (by first | (with_reducible assumption) | assumption)
                                              have q166 : x26_7 < (l4.length : Int) := of_decide_eq_true (by first | (with_reducible assumption) | assumption)
                                              obtain ⟨ad166, e166, hx166_0⟩ := Kd.at_int HR4.out x26_7 p166 q166
                                              obtain rfl : ad165 = ad166 := (by injection e166)
                                              replace hx166_0 := (HB.out.cell (World.block_lt_of_cell? w _ hx166_0)).trans hx166_0
                                              replace p166 := eq_true p166
                                              replace q166 := eq_true q166
                                              go_wp2_with (first | ((with_reducible refine gate_callee (f := 35) rfl ?_); refine goesL_ (some 111) rfl rfl Try.func35 (by kernel_rfl) rfl #[.slice A0 l0.length c0, .int .i64 (rd l4 x26_7), .bool a3] rfl (by (try simp only [List.map_toArray, List.map_cons, List.map_nil]); first | done | rfl | (simp only [List.length_drop, List.length_take]; rfl)) ?_; (with_reducible refine (glossatorref4_MapOffset.calls kj34 _ _ l0 (rd l4 x26_7) a3 t167 _ ?side1 ?side2 A41.out).mono ?_); (case side1 => repeat (first | exact (Kd.C_below HR0.out HB.out) | (with_reducible refine Kd.C_alloc ?_ _) | (with_reducible refine Kd.C_drewN ?_ _) | (with_reducible refine Kd.C_drew ?_))); (case side2 => exact HC0.out); rintro e w43 ⟨rfl, hb⟩; refine ⟨_, rfl, ?_⟩; have n0_ := Aside0.mk (Kd.R_below (by (with_reducible repeat (first | apply Kd.R_alloc | apply Kd.R_drewN | apply Kd.R_drew)); exact HO_16.out) hb); have n1_ := Aside0.mk (Kd.R_below (by (with_reducible repeat (first | apply Kd.R_alloc | apply Kd.R_drewN | apply Kd.R_drew)); exact HO_25.out) hb); have n2_ := Aside0.mk (below_step (by repeat (first | (with_reducible first | exact HB.out | apply below_alloc | apply pw_below_drewN | apply below_drew1) | exact HB.out)) hb); clear HO_16; clear HO_25; clear HB; have HO_16 := n0_; have HO_25 := n1_; have HB := n2_; clear n0_ n1_ n2_; (try clear hb); (try clear hb2); (try clear hk); (try clear hi)) | ((with_reducible refine gate_builtin (b := .append) (xs := #[.tmp 104, .tmp 112]) rfl ?_); at_builtin; refine Kd.R_append (Kd.int .i64) (w0 := w) w.heap.size rfl (.tmp 104) (.tmp 112) 22 3 (.int .i64 0) 8 rfl Try.underlying22 info3 rfl (by decide) (by omega) u25 x25_7 t167 [.int .i64 t167] (fun k_ => some k_ ≠ (v159 : Value).ownBlock) (fun _ => False) rfl rfl ?aP (fun _ hk => hk.elim) ?aF ?aO ?aB ?aS ?aL ?_; (case aP => exact rfl); (case aB => exact (by repeat (first | (with_reducible first | exact HB.out | apply below_alloc | apply pw_below_drewN | apply below_drew1) | exact HB.out))); (case aF => exact (fun k_ hk => Kd.fresh' (Kd.R_lt (by (with_reducible repeat (first | apply Kd.R_alloc | apply Kd.R_drewN | apply Kd.R_drew)); exact HO_16.out)) k_ hk)); (case aO => exact (by (with_reducible repeat (first | apply Kd.R_alloc | apply Kd.R_drewN | apply Kd.R_drew)); exact HO_25.out)); (case aS => exact (below_size (by repeat (first | (with_reducible first | exact HB.out | apply below_alloc | apply pw_below_drewN | apply below_drew1) | exact HB.out)))); (case aL => have := LMc42.out; omega); intro v169 w44 ho hb hg hat; rw [← Ny168.out] at ho; have n0_ := Aside0.mk (Kd.R_after (ok := (fun _ => True)) (by (with_reducible repeat (first | apply Kd.R_alloc | apply Kd.R_drewN | apply Kd.R_drew)); exact Kd.R_mono HO_16.out (fun _ hk => ⟨trivial, hk⟩)) hg hat); have n1_ := Aside0.mk (hb); have n2_ := Aside0.mk (ho); clear HO_16; clear HB; clear HO_25; have HO_16 := n0_; have HB := n1_; have HO170 := n2_; clear n0_ n1_ n2_; clear ho hb hg hat))
                                              go_roundg kj34
                                              case measure => have := HJ11.out; have := HJ17.out; have := HJ19.out; have := HJ21.out; have := HJ23.out; have := HJ27.out; have := HK7.out; have := HJ34.out; omega
                                              case rel => exact ⟨(x21_7), (y168), (wrap64 (x26_7 + 1)), (by first | rfl | (simp; done) | (simp [*]; done) | (simp [isEmpty_bne]; done)), (by first | rfl | (simp; done) | (simp [*]; done) | (simp [isEmpty_bne]; done)), H', ⟨by have := HJ11.out; have := HJ17.out; have := HJ19.out; have := HJ21.out; have := HJ23.out; have := HJ27.out; have := HK7.out; have := HJ34.out; omega⟩, ⟨by (with_reducible repeat (first | apply Kd.R_alloc | apply Kd.R_drewN | apply Kd.R_drew)); exact Kd.R_mono HO_16.out (fun _ hk => hk.2)⟩, ⟨by (with_reducible repeat (first | apply Kd.R_alloc | apply Kd.R_drewN | apply Kd.R_drew)); exact HO170.out⟩, ⟨by repeat (first | (with_reducible first | exact HB.out | apply below_alloc | apply pw_below_drewN | apply below_drew1) | exact HB.out)⟩⟩
                                            · rw [if_neg c42] at H
                                              exact absurd H (by simp)
                                        · rw [if_neg c39] at H
                                          exact absurd H (by simp)
                                      · rw [if_neg c38] at H
                                        exact absurd H (by simp)
                                    · replace c37 := Bool.eq_false_iff.mpr c37
                                      subst c37
                                      have H1 : (if t152 = x22_23 then (if t153 = x19_17 then (if t154 = x23_27 then (if t155 = x24_27 then (if t156 = x20_21 then ((glossatorref4_EqualInts.f kj34 t157 x25_7).bind fun t171 => (if t171 = true then (some (t158 == x21_7)) else (some false))) else (some false)) else (some false)) else (some false)) else (some false)) else (some false)) = some r := by rw [if_neg (show ¬ (false = true) by decide)] at H; exact H
                                      clear H
                                      have H := H1
                                      clear H1
                                      by_cases c45 : t152 = x22_23
                                      · rw [if_pos c45] at H
                                        have c45b0 : (t152 == x22_23) = true := beq_iff_eq.mpr c45
                                        have c45b1 : (t152 != x22_23) = false := bne_eq_false_iff_eq.mpr c45
                                        clear c45
                                        by_cases c46 : t153 = x19_17
                                        · rw [if_pos c46] at H
                                          have c46b0 : (t153 == x19_17) = true := beq_iff_eq.mpr c46
                                          have c46b1 : (t153 != x19_17) = false := bne_eq_false_iff_eq.mpr c46
                                          clear c46
                                          by_cases c47 : t154 = x23_27
                                          · rw [if_pos c47] at H
                                            have c47b0 : (t154 == x23_27) = true := beq_iff_eq.mpr c47
                                            have c47b1 : (t154 != x23_27) = false := bne_eq_false_iff_eq.mpr c47
                                            clear c47
                                            by_cases c48 : t155 = x24_27
                                            · rw [if_pos c48] at H
                                              have c48b0 : (t155 == x24_27) = true := beq_iff_eq.mpr c48
                                              have c48b1 : (t155 != x24_27) = false := bne_eq_false_iff_eq.mpr c48
                                              clear c48
                                              by_cases c49 : t156 = x20_21
                                              · rw [if_pos c49] at H
                                                have c49b0 : (t156 == x20_21) = true := beq_iff_eq.mpr c49
                                                have c49b1 : (t156 != x20_21) = false := bne_eq_false_iff_eq.mpr c49
                                                clear c49
                                                replace H := Option.bind_eq_some_iff.mp H
                                                obtain ⟨t171, A500, H⟩ := H
                                                replace H : (if t171 = true then (some (t158 == x21_7)) else (some false)) = some r := H
                                                have A50 := Aside0.mk A500
                                                clear A500
                                                by_cases c51 : t171 = true
                                                · subst c51
                                                  have H1 : (some (t158 == x21_7)) = some r := by rw [if_pos rfl] at H; exact H
                                                  clear H
                                                  have H := H1
                                                  clear H1
                                                  obtain rfl := Option.some.inj H
                                                  obtain ⟨Ao52, co52, eo52⟩ := Kd.R_slice HO_16.out
                                                  subst eo52
                                                  obtain ⟨Ao53, co53, eo53⟩ := Kd.R_slice HO_25.out
                                                  subst eo53
                                                  go_wp2_with (first | (go_at_call 36; (with_reducible refine (glossatorref4_EqualInts.calls kj34 _ _ t157 _ _ x25_7 true _ ?side1 ?side2 ?side3 ?side4 A50.out).mono ?_); (case side1 => repeat (first | exact (Kd.R_reads' HO_16.out).2.2 | (with_reducible refine Kd.C_alloc ?_ _) | (with_reducible refine Kd.C_drewN ?_ _) | (with_reducible refine Kd.C_drew ?_))); (case side2 => exact (Kd.R_reads' HO_16.out).2.1); (case side3 => repeat (first | exact (Kd.R_reads' HO_25.out).2.2 | (with_reducible refine Kd.C_alloc ?_ _) | (with_reducible refine Kd.C_drewN ?_ _) | (with_reducible refine Kd.C_drew ?_))); (case side4 => exact (Kd.R_reads' HO_25.out).2.1); rintro e w' ⟨rfl, ⟨nd, rfl⟩⟩))
                                                  go_ret
                                                  exact ⟨by first | rfl | (simp [errW_none, errW_some] <;> rfl) | (simp [*, errW_none, errW_some] <;> rfl), by repeat (first | (with_reducible first | exact HB.out | apply below_alloc | apply pw_below_drewN | apply below_drew1) | exact HB.out)⟩
                                                · replace c51 := Bool.eq_false_iff.mpr c51
                                                  subst c51
                                                  have H1 : (some false) = some r := by rw [if_neg (show ¬ (false = true) by decide)] at H; exact H
                                                  clear H
                                                  have H := H1
                                                  clear H1
                                                  obtain rfl := Option.some.inj H
                                                  obtain ⟨Ao54, co54, eo54⟩ := Kd.R_slice HO_16.out
                                                  subst eo54
                                                  obtain ⟨Ao55, co55, eo55⟩ := Kd.R_slice HO_25.out
                                                  subst eo55
                                                  go_wp2_with (first | (go_at_call 36; (with_reducible refine (glossatorref4_EqualInts.calls kj34 _ _ t157 _ _ x25_7 false _ ?side1 ?side2 ?side3 ?side4 A50.out).mono ?_); (case side1 => repeat (first | exact (Kd.R_reads' HO_16.out).2.2 | (with_reducible refine Kd.C_alloc ?_ _) | (with_reducible refine Kd.C_drewN ?_ _) | (with_reducible refine Kd.C_drew ?_))); (case side2 => exact (Kd.R_reads' HO_16.out).2.1); (case side3 => repeat (first | exact (Kd.R_reads' HO_25.out).2.2 | (with_reducible refine Kd.C_alloc ?_ _) | (with_reducible refine Kd.C_drewN ?_ _) | (with_reducible refine Kd.C_drew ?_))); (case side4 => exact (Kd.R_reads' HO_25.out).2.1); rintro e w' ⟨rfl, ⟨nd, rfl⟩⟩))
                                                  go_ret
                                                  exact ⟨by first | rfl | (simp [errW_none, errW_some] <;> rfl) | (simp [*, errW_none, errW_some] <;> rfl), by repeat (first | (with_reducible first | exact HB.out | apply below_alloc | apply pw_below_drewN | apply below_drew1) | exact HB.out)⟩
                                              · rw [if_neg c49] at H
                                                have c49b0 : (t156 == x20_21) = false := beq_eq_false_iff_ne.mpr c49
                                                have c49b1 : (t156 != x20_21) = true := bne_iff_ne.mpr c49
                                                obtain rfl := Option.some.inj H
                                                go_wp2
                                                go_ret
                                                exact ⟨by first | rfl | (simp [errW_none, errW_some] <;> rfl) | (simp [*, errW_none, errW_some] <;> rfl), by repeat (first | (with_reducible first | exact HB.out | apply below_alloc | apply pw_below_drewN | apply below_drew1) | exact HB.out)⟩
                                            · rw [if_neg c48] at H
                                              have c48b0 : (t155 == x24_27) = false := beq_eq_false_iff_ne.mpr c48
                                              have c48b1 : (t155 != x24_27) = true := bne_iff_ne.mpr c48
                                              obtain rfl := Option.some.inj H
                                              go_wp2
                                              go_ret
                                              exact ⟨by first | rfl | (simp [errW_none, errW_some] <;> rfl) | (simp [*, errW_none, errW_some] <;> rfl), by repeat (first | (with_reducible first | exact HB.out | apply below_alloc | apply pw_below_drewN | apply below_drew1) | exact HB.out)⟩
                                          · rw [if_neg c47] at H
                                            have c47b0 : (t154 == x23_27) = false := beq_eq_false_iff_ne.mpr c47
                                            have c47b1 : (t154 != x23_27) = true := bne_iff_ne.mpr c47
                                            obtain rfl := Option.some.inj H
                                            go_wp2
                                            go_ret
                                            exact ⟨by first | rfl | (simp [errW_none, errW_some] <;> rfl) | (simp [*, errW_none, errW_some] <;> rfl), by repeat (first | (with_reducible first | exact HB.out | apply below_alloc | apply pw_below_drewN | apply below_drew1) | exact HB.out)⟩
                                        · rw [if_neg c46] at H
                                          have c46b0 : (t153 == x19_17) = false := beq_eq_false_iff_ne.mpr c46
                                          have c46b1 : (t153 != x19_17) = true := bne_iff_ne.mpr c46
                                          obtain rfl := Option.some.inj H
                                          go_wp2
                                          go_ret
                                          exact ⟨by first | rfl | (simp [errW_none, errW_some] <;> rfl) | (simp [*, errW_none, errW_some] <;> rfl), by repeat (first | (with_reducible first | exact HB.out | apply below_alloc | apply pw_below_drewN | apply below_drew1) | exact HB.out)⟩
                                      · rw [if_neg c45] at H
                                        have c45b0 : (t152 == x22_23) = false := beq_eq_false_iff_ne.mpr c45
                                        have c45b1 : (t152 != x22_23) = true := bne_iff_ne.mpr c45
                                        obtain rfl := Option.some.inj H
                                        go_wp2
                                        go_ret
                                        exact ⟨by first | rfl | (simp [errW_none, errW_some] <;> rfl) | (simp [*, errW_none, errW_some] <;> rfl), by repeat (first | (with_reducible first | exact HB.out | apply below_alloc | apply pw_below_drewN | apply below_drew1) | exact HB.out)⟩
  · replace c7 := Bool.eq_false_iff.mpr c7
    subst c7
    have H1 : (some false) = some r := by rw [if_neg (show ¬ (false = true) by decide)] at H; exact H
    clear H
    have H := H1
    clear H1
    obtain rfl := Option.some.inj H
    go_enter Try.func5, Try.ntmps5
    go_wp2_with (first | ((with_reducible refine gate_callee (f := 30) rfl ?_); refine goesL_ (some 27) rfl rfl Try.func30 (by kernel_rfl) rfl #[] rfl (by (try simp only [List.map_toArray, List.map_cons, List.map_nil]); first | done | rfl | (simp only [List.length_drop, List.length_take]; rfl)) ?_; (with_reducible refine (glossatorlaw4_anchorExamples.calls k  false _ A6.out).mono ?_); rintro e w56 ⟨rfl, hb⟩; refine ⟨_, rfl, ?_⟩; have n0_ := Aside0.mk (below_step (by repeat (first | (with_reducible first | exact HB.out | apply below_alloc | apply pw_below_drewN | apply below_drew1) | exact HB.out)) hb); clear HB; have HB := n0_; clear n0_; (try clear hb); (try clear hb2); (try clear hk); (try clear hi)))
    go_ret
    exact ⟨by first | rfl | (simp [errW_none, errW_some] <;> rfl) | (simp [*, errW_none, errW_some] <;> rfl), by repeat (first | (with_reducible first | exact HB.out | apply below_alloc | apply pw_below_drewN | apply below_drew1) | exact HB.out)⟩

end Go.Proofs.Ytbfedkmiekbcmaa.QAnchorMapEqualsReference
