-- Written by gen.py (this repo's wip/), which runs the kit's print.py with more arms. Lean checks it.
import Derived.Test.YtbfedkmiekbcmaaQTexteditTransformEqualsReferencex0
import Derived.Test.YtbfedkmiekbcmaaQTexteditTransformEqualsReferencex3
import Derived.Test.YtbfedkmiekbcmaaQTexteditTransformEqualsReferencex5
import Derived.Test.YtbfedkmiekbcmaaQTexteditTransformEqualsReferencex6
import Derived.Test.YtbfedkmiekbcmaaQTexteditTransformEqualsReferencex7
import Derived.Test.YtbfedkmiekbcmaaQTexteditTransformEqualsReferencex8
import Derived.Test.YtbfedkmiekbcmaaQTexteditTransformEqualsReferencex9
namespace Go.Proofs.Ytbfedkmiekbcmaa.QTexteditTransformEqualsReference
open Go.RowKit Go.Proofs.YtbfedkmiekbcmaaW.PrintWords Go.Proofs.YtbfedkmiekbcmaaW.PrintLast Go.Proofs.YtbfedkmiekbcmaaW.PrintMore
attribute [local go_sem] max2_int min2_int max_two min_two max_three min_three max_four min_four   -- for this text's walks alone
set_option linter.unusedVariables false
set_option linter.unusedSimpArgs false

private theorem isEmpty_bne {α : Type} [BEq α] (l : List α) : (l != []) = !l.isEmpty := by cases l <;> rfl

/-! ### glossatorlaw4_TexteditTransformEqualsReference: function 13 -/
mutual
def glossatorlaw4_TexteditTransformEqualsReference.j0 : Nat → ByteArray → List (S137) → List (S137) → Option (Bool)
  | 0, _, _, _ => none
  | k + 1, x0, x1, x2 => (textedit_Transform.f k x0 x1 x2).bind fun bt222 => ((glossatorref4_ValidateEdits.f k x0 x1).bind fun t229 => (if t229 = 0 then ((glossatorref4_ValidateEdits.f k x0 x2).bind fun t230 => (glossatorlaw4_TexteditTransformEqualsReference.j1 k x0 x1 x2 bt222.1 bt222.2.1 bt222.2.2 t230)) else (glossatorlaw4_TexteditTransformEqualsReference.j1 k x0 x1 x2 bt222.1 bt222.2.1 bt222.2.2 t229)))
def glossatorlaw4_TexteditTransformEqualsReference.j1 : Nat → ByteArray → List (S137) → List (S137) → List (S137) → List (S137) → Int → Int → Option (Bool)
  | 0, _, _, _, _, _, _, _ => none
  | k + 1, x0, x1, x2, x7, x8, x9, x10 => if x10 = 0 then ((glossatorref4_MergeEdits.f k x0 x1 x2 false).bind fun t231 => ((glossatorref4_MergeEdits.f k x0 x1 x2 true).bind fun t234 => ((glossatorref4_ApplyEdits.f k x0 x2).bind fun t237 => ((glossatorref4_CanonicalEdits.f k (t237.size : Int) t231).bind fun bt238 => ((glossatorref4_ApplyEdits.f k x0 x1).bind fun t242 => ((glossatorref4_CanonicalEdits.f k (t242.size : Int) t234).bind fun bt243 => (if (t234.length : Int) > 2000 then (glossatorlaw4_TexteditTransformEqualsReference.j2 k x7 x8 x9 x10 ([] : List (S137)) ([] : List (S137)) bt238.1 bt243.1 true) else (if bt238.2 = true then (glossatorlaw4_TexteditTransformEqualsReference.j2 k x7 x8 x9 x10 ([] : List (S137)) ([] : List (S137)) bt238.1 bt243.1 (!bt243.2)) else (glossatorlaw4_TexteditTransformEqualsReference.j2 k x7 x8 x9 x10 ([] : List (S137)) ([] : List (S137)) bt238.1 bt243.1 true))))))))) else ((glossatorref4_EqualEdits.f k x7 ([] : List (S137))).bind fun t251 => (if t251 = true then ((glossatorref4_EqualEdits.f k x8 ([] : List (S137))).bind fun t252 => (if t252 = true then (some (x9 == x10)) else (some false))) else (some false)))
def glossatorlaw4_TexteditTransformEqualsReference.j2 : Nat → List (S137) → List (S137) → Int → Int → List (S137) → List (S137) → List (S137) → List (S137) → Bool → Option (Bool)
  | 0, _, _, _, _, _, _, _, _, _ => none
  | k + 1, x7, x8, x9, x10, x11, x12, x15, x17, x83 => if x83 = true then ((glossatorref4_EqualEdits.f k x7 x11).bind fun t247 => (if t247 = true then ((glossatorref4_EqualEdits.f k x8 x12).bind fun t248 => (if t248 = true then (some (x9 == 2)) else (some false))) else (some false))) else ((glossatorref4_EqualEdits.f k x7 x15).bind fun t249 => (if t249 = true then ((glossatorref4_EqualEdits.f k x8 x17).bind fun t250 => (if t250 = true then (some (x9 == x10)) else (some false))) else (some false)))
end
def glossatorlaw4_TexteditTransformEqualsReference.f (k : Nat) (a0 : ByteArray) (l1 : List (S137)) (l2 : List (S137)) : Option (Bool) := (glossatorlaw4_texteditExamples.f k).bind fun t221 => (if t221 = true then (if (a0.size : Int) ≤ 2000 then (if 0 ≤ (mn (a0.size : Int) 300) then (if (mn (a0.size : Int) 300) ≤ (a0.size : Int) then (glossatorlaw4_TexteditTransformEqualsReference.j0 k (a0.extract 0 ((mn (a0.size : Int) 300) : Int).toNat) l1 l2) else (none)) else (none)) else (glossatorlaw4_TexteditTransformEqualsReference.j0 k a0 l1 l2)) else (some false))
theorem glossatorlaw4_TexteditTransformEqualsReference.mono_l : ∀ k, (∀ y0 y1 y2, LeO (glossatorlaw4_TexteditTransformEqualsReference.j0 k y0 y1 y2) (glossatorlaw4_TexteditTransformEqualsReference.j0 (k + 1) y0 y1 y2)) ∧ (∀ y0 y1 y2 y3 y4 y5 y6, LeO (glossatorlaw4_TexteditTransformEqualsReference.j1 k y0 y1 y2 y3 y4 y5 y6) (glossatorlaw4_TexteditTransformEqualsReference.j1 (k + 1) y0 y1 y2 y3 y4 y5 y6)) ∧ (∀ y0 y1 y2 y3 y4 y5 y6 y7 y8, LeO (glossatorlaw4_TexteditTransformEqualsReference.j2 k y0 y1 y2 y3 y4 y5 y6 y7 y8) (glossatorlaw4_TexteditTransformEqualsReference.j2 (k + 1) y0 y1 y2 y3 y4 y5 y6 y7 y8))
  | 0 => ⟨fun _ _ _ r h => by simp [glossatorlaw4_TexteditTransformEqualsReference.j0] at h, fun _ _ _ _ _ _ _ r h => by simp [glossatorlaw4_TexteditTransformEqualsReference.j1] at h, fun _ _ _ _ _ _ _ _ _ r h => by simp [glossatorlaw4_TexteditTransformEqualsReference.j2] at h⟩
  | k + 1 => by
    obtain ⟨ih0, ih1, ih2⟩ := glossatorlaw4_TexteditTransformEqualsReference.mono_l k
    refine ⟨?_, ?_, ?_⟩
    · intro y0 y1 y2
      unfold glossatorlaw4_TexteditTransformEqualsReference.j0
      repeat' first
      | (with_reducible exact ih0 _ _ _)
      | (with_reducible exact ih1 _ _ _ _ _ _ _)
      | (with_reducible exact ih2 _ _ _ _ _ _ _ _ _)
      | (with_reducible exact glossatorlaw4_texteditExamples.mono _)
      | (with_reducible exact glossatorref4_ApplyEdits.mono _ _ _)
      | (with_reducible exact glossatorref4_CanonicalEdits.mono _ _ _)
      | (with_reducible exact glossatorref4_EqualEdits.mono _ _ _)
      | (with_reducible exact glossatorref4_MergeEdits.mono _ _ _ _ _)
      | (with_reducible exact glossatorref4_ValidateEdits.mono _ _ _)
      | (with_reducible exact textedit_Transform.mono _ _ _ _)
      | (with_reducible exact LeO.refl _)
      | (with_reducible exact LeO.none _)
      | (with_reducible refine LeO.ite ?_ ?_)
      | (with_reducible refine LeO.bind ?_ (fun _ => ?_))
      | exact ih0 _ _ _
      | exact ih1 _ _ _ _ _ _ _
      | exact ih2 _ _ _ _ _ _ _ _ _
      | exact glossatorlaw4_texteditExamples.mono _
      | exact glossatorref4_ApplyEdits.mono _ _ _
      | exact glossatorref4_CanonicalEdits.mono _ _ _
      | exact glossatorref4_EqualEdits.mono _ _ _
      | exact glossatorref4_MergeEdits.mono _ _ _ _ _
      | exact glossatorref4_ValidateEdits.mono _ _ _
      | exact textedit_Transform.mono _ _ _ _
      | exact LeO.none _
      | refine LeO.ite ?_ ?_
      | refine LeO.bind ?_ (fun _ => ?_)
    · intro y0 y1 y2 y3 y4 y5 y6
      unfold glossatorlaw4_TexteditTransformEqualsReference.j1
      repeat' first
      | (with_reducible exact ih0 _ _ _)
      | (with_reducible exact ih1 _ _ _ _ _ _ _)
      | (with_reducible exact ih2 _ _ _ _ _ _ _ _ _)
      | (with_reducible exact glossatorlaw4_texteditExamples.mono _)
      | (with_reducible exact glossatorref4_ApplyEdits.mono _ _ _)
      | (with_reducible exact glossatorref4_CanonicalEdits.mono _ _ _)
      | (with_reducible exact glossatorref4_EqualEdits.mono _ _ _)
      | (with_reducible exact glossatorref4_MergeEdits.mono _ _ _ _ _)
      | (with_reducible exact glossatorref4_ValidateEdits.mono _ _ _)
      | (with_reducible exact textedit_Transform.mono _ _ _ _)
      | (with_reducible exact LeO.refl _)
      | (with_reducible exact LeO.none _)
      | (with_reducible refine LeO.ite ?_ ?_)
      | (with_reducible refine LeO.bind ?_ (fun _ => ?_))
      | exact ih0 _ _ _
      | exact ih1 _ _ _ _ _ _ _
      | exact ih2 _ _ _ _ _ _ _ _ _
      | exact glossatorlaw4_texteditExamples.mono _
      | exact glossatorref4_ApplyEdits.mono _ _ _
      | exact glossatorref4_CanonicalEdits.mono _ _ _
      | exact glossatorref4_EqualEdits.mono _ _ _
      | exact glossatorref4_MergeEdits.mono _ _ _ _ _
      | exact glossatorref4_ValidateEdits.mono _ _ _
      | exact textedit_Transform.mono _ _ _ _
      | exact LeO.none _
      | refine LeO.ite ?_ ?_
      | refine LeO.bind ?_ (fun _ => ?_)
    · intro y0 y1 y2 y3 y4 y5 y6 y7 y8
      unfold glossatorlaw4_TexteditTransformEqualsReference.j2
      repeat' first
      | (with_reducible exact ih0 _ _ _)
      | (with_reducible exact ih1 _ _ _ _ _ _ _)
      | (with_reducible exact ih2 _ _ _ _ _ _ _ _ _)
      | (with_reducible exact glossatorlaw4_texteditExamples.mono _)
      | (with_reducible exact glossatorref4_ApplyEdits.mono _ _ _)
      | (with_reducible exact glossatorref4_CanonicalEdits.mono _ _ _)
      | (with_reducible exact glossatorref4_EqualEdits.mono _ _ _)
      | (with_reducible exact glossatorref4_MergeEdits.mono _ _ _ _ _)
      | (with_reducible exact glossatorref4_ValidateEdits.mono _ _ _)
      | (with_reducible exact textedit_Transform.mono _ _ _ _)
      | (with_reducible exact LeO.refl _)
      | (with_reducible exact LeO.none _)
      | (with_reducible refine LeO.ite ?_ ?_)
      | (with_reducible refine LeO.bind ?_ (fun _ => ?_))
      | exact ih0 _ _ _
      | exact ih1 _ _ _ _ _ _ _
      | exact ih2 _ _ _ _ _ _ _ _ _
      | exact glossatorlaw4_texteditExamples.mono _
      | exact glossatorref4_ApplyEdits.mono _ _ _
      | exact glossatorref4_CanonicalEdits.mono _ _ _
      | exact glossatorref4_EqualEdits.mono _ _ _
      | exact glossatorref4_MergeEdits.mono _ _ _ _ _
      | exact glossatorref4_ValidateEdits.mono _ _ _
      | exact textedit_Transform.mono _ _ _ _
      | exact LeO.none _
      | refine LeO.ite ?_ ?_
      | refine LeO.bind ?_ (fun _ => ?_)
theorem glossatorlaw4_TexteditTransformEqualsReference.mono : ∀ a0 a1 a2 k, LeO (glossatorlaw4_TexteditTransformEqualsReference.f k a0 a1 a2) (glossatorlaw4_TexteditTransformEqualsReference.f (k + 1) a0 a1 a2) := by
  intro a0 a1 a2 k
  obtain ⟨ih0, ih1, ih2⟩ := glossatorlaw4_TexteditTransformEqualsReference.mono_l k
  unfold glossatorlaw4_TexteditTransformEqualsReference.f
  repeat' first
      | (with_reducible exact ih0 _ _ _)
      | (with_reducible exact ih1 _ _ _ _ _ _ _)
      | (with_reducible exact ih2 _ _ _ _ _ _ _ _ _)
      | (with_reducible exact glossatorlaw4_texteditExamples.mono _)
      | (with_reducible exact glossatorref4_ApplyEdits.mono _ _ _)
      | (with_reducible exact glossatorref4_CanonicalEdits.mono _ _ _)
      | (with_reducible exact glossatorref4_EqualEdits.mono _ _ _)
      | (with_reducible exact glossatorref4_MergeEdits.mono _ _ _ _ _)
      | (with_reducible exact glossatorref4_ValidateEdits.mono _ _ _)
      | (with_reducible exact textedit_Transform.mono _ _ _ _)
      | (with_reducible exact LeO.refl _)
      | (with_reducible exact LeO.none _)
      | (with_reducible refine LeO.ite ?_ ?_)
      | (with_reducible refine LeO.bind ?_ (fun _ => ?_))
      | exact ih0 _ _ _
      | exact ih1 _ _ _ _ _ _ _
      | exact ih2 _ _ _ _ _ _ _ _ _
      | exact glossatorlaw4_texteditExamples.mono _
      | exact glossatorref4_ApplyEdits.mono _ _ _
      | exact glossatorref4_CanonicalEdits.mono _ _ _
      | exact glossatorref4_EqualEdits.mono _ _ _
      | exact glossatorref4_MergeEdits.mono _ _ _ _ _
      | exact glossatorref4_ValidateEdits.mono _ _ _
      | exact textedit_Transform.mono _ _ _ _
      | exact LeO.none _
      | refine LeO.ite ?_ ?_
      | refine LeO.bind ?_ (fun _ => ?_)
set_option maxHeartbeats 8000000 in
set_option maxRecDepth 100000 in
theorem glossatorlaw4_TexteditTransformEqualsReference.calls (k : Nat) (a0 : ByteArray) (A1 : Option Addr) (c1 : Nat) (l1 : List (S137)) (A2 : Option Addr) (c2 : Nat) (l2 : List (S137)) (r : Bool) (w : World) (hr1 : Kd.C k137 w A1 l1.length l1) (hc1 : l1.length ≤ c1) (hr2 : Kd.C k137 w A2 l2.length l2) (hc2 : l2.length ≤ c2) (h : glossatorlaw4_TexteditTransformEqualsReference.f k a0 l1 l2 = some r) :
    Calls Try.prog 13 #[.string a0, .slice A1 l1.length c1, .slice A2 l2.length c2] w fun e w' => e = .returned (.bool r) ∧ Below w.heap.size w w' := by
  have HR1 := Aside0.mk hr1
  have HC1 := Aside0.mk hc1
  clear hr1 hc1
  have HR2 := Aside0.mk hr2
  have HC2 := Aside0.mk hc2
  clear hr2 hc2
  have HB := Aside0.mk (Below.refl w.heap.size w)
  have H : ((glossatorlaw4_texteditExamples.f k).bind fun t221 => (if t221 = true then (if (a0.size : Int) ≤ 2000 then (if 0 ≤ (mn (a0.size : Int) 300) then (if (mn (a0.size : Int) 300) ≤ (a0.size : Int) then (glossatorlaw4_TexteditTransformEqualsReference.j0 k (a0.extract 0 ((mn (a0.size : Int) 300) : Int).toNat) l1 l2) else (none)) else (none)) else (glossatorlaw4_TexteditTransformEqualsReference.j0 k a0 l1 l2)) else (some false))) = some r := h
  clear h
  replace H := Option.bind_eq_some_iff.mp H
  obtain ⟨t221, A40, H⟩ := H
  replace H : (if t221 = true then (if (a0.size : Int) ≤ 2000 then (if 0 ≤ (mn (a0.size : Int) 300) then (if (mn (a0.size : Int) 300) ≤ (a0.size : Int) then (glossatorlaw4_TexteditTransformEqualsReference.j0 k (a0.extract 0 ((mn (a0.size : Int) 300) : Int).toNat) l1 l2) else (none)) else (none)) else (glossatorlaw4_TexteditTransformEqualsReference.j0 k a0 l1 l2)) else (some false)) = some r := H
  have A4 := Aside0.mk A40
  clear A40
  by_cases c5 : t221 = true
  · subst c5
    have H1 : (if (a0.size : Int) ≤ 2000 then (if 0 ≤ (mn (a0.size : Int) 300) then (if (mn (a0.size : Int) 300) ≤ (a0.size : Int) then (glossatorlaw4_TexteditTransformEqualsReference.j0 k (a0.extract 0 ((mn (a0.size : Int) 300) : Int).toNat) l1 l2) else (none)) else (none)) else (glossatorlaw4_TexteditTransformEqualsReference.j0 k a0 l1 l2)) = some r := by rw [if_pos rfl] at H; exact H
    clear H
    have H := H1
    clear H1
    have HC6 := Aside0.mk H
    clear H
    go_enter Try.func13, Try.ntmps13
    go_upto_if 23 with (first | ((with_reducible refine gate_callee (f := 62) rfl ?_); refine goesL_ (some 19) rfl rfl Try.func62 (by kernel_rfl) rfl #[] rfl (by (try simp only [List.map_toArray, List.map_cons, List.map_nil]); first | done | rfl | (simp only [List.length_drop, List.length_take]; rfl)) ?_; (with_reducible refine (glossatorlaw4_texteditExamples.calls k  true _ A4.out).mono ?_); rintro e w7 ⟨rfl, hb⟩; refine ⟨_, rfl, ?_⟩; have n0_ := Aside0.mk (below_step (by repeat (first | (with_reducible first | exact HB.out | apply below_alloc | apply pw_below_drewN | apply below_drew1) | exact HB.out)) hb); clear HB; have HB := n0_; clear n0_; (try clear hb); (try clear hb2); (try clear hk); (try clear hi)))
    (try simp only [Act.put, List.setIfInBounds_toArray, List.set_cons_zero, List.set_cons_succ])
    go_cut [0] (fun v0 wc => ∃ (kq : Nat) (x0_5 : ByteArray), v0 = .string x0_5 ∧ Aside0 (glossatorlaw4_TexteditTransformEqualsReference.j0 kq x0_5 l1 l2 = some r) ∧ Aside0 (kq ≤ k) ∧ Aside0 (Below w.heap.size w wc))
    case first =>
      have H := HC6.out
      clear HC6
      by_cases c8 : (a0.size : Int) ≤ 2000
      · rw [if_pos c8] at H
        have c8b0 : decide ((a0.size : Int) ≤ 2000) = true := decide_eq_true c8
        have c8b1 : decide (a0.size ≤ 2000) = true := decide_eq_true (by omega)
        clear c8
        (first | rw [c8b0] | (simp only [i64_w, i32_w]; rw [c8b0]) | skip)
        obtain ⟨ji9, hji9⟩ : ∃ j_ : Int, (mn (a0.size : Int) 300) = j_ := ⟨_, rfl⟩
        replace H : (if 0 ≤ (ji9) then (if (ji9) ≤ (a0.size : Int) then (glossatorlaw4_TexteditTransformEqualsReference.j0 k (a0.extract 0 ((ji9) : Int).toNat) l1 l2) else (none)) else (none)) = some r := by first | (rw [hji9] at H; exact H) | (simp only [hji9] at H ⊢; exact H)
        (try (have hji9h : ji9 ≤ 300 := by (rw [← hji9]; unfold mn; (repeat' split) <;> omega)))
        (try (have hji9g : ji9 ≤ 64 := by omega))
        (try (have hji9l : 0 ≤ ji9 := by (rw [← hji9]; unfold mn; (repeat' split) <;> omega)))
        (try (have hji9m : 0 ≤ ji9 := by omega))
        have hji9_ : (if 300 < (a0.size : Int) then 300 else (a0.size : Int)) = ji9 := hji9
        by_cases c10 : 0 ≤ (ji9)
        · rw [if_pos c10] at H
          have c10b0 := eq_true c10
          have c10b1 : decide (0 ≤ (ji9)) = true := decide_eq_true c10
          clear c10
          by_cases c11 : (ji9) ≤ (a0.size : Int)
          · rw [if_pos c11] at H
            have c11b0 := eq_true c11
            have c11b1 : decide ((ji9) ≤ (a0.size : Int)) = true := decide_eq_true c11
            clear c11
            have H' := Aside0.mk H
            clear H
            go_wp2
            go_meet
            case rel => exact ⟨_, (a0.extract 0 ((ji9) : Int).toNat), (by first | rfl | (simp; done) | (simp only [← hji9] <;> (first | rfl | simp)) | (simp [*]; done)), H', ⟨by first | omega | exact Nat.le_refl _⟩, ⟨by repeat (first | (with_reducible first | exact HB.out | apply below_alloc | apply pw_below_drewN | apply below_drew1) | exact HB.out)⟩⟩
          · rw [if_neg c11] at H
            exact absurd H (by simp)
        · rw [if_neg c10] at H
          exact absurd H (by simp)
      · rw [if_neg c8] at H
        have c8b0 : decide ((a0.size : Int) ≤ 2000) = false := decide_eq_false c8
        have c8b1 : decide (a0.size ≤ 2000) = false := decide_eq_false (by omega)
        clear c8
        (first | rw [c8b0] | (simp only [i64_w, i32_w]; rw [c8b0]) | skip)
        have H' := Aside0.mk H
        clear H
        go_wp2
        go_meet
        case rel => exact ⟨_, (a0), (by first | rfl | (simp; done) | (simp [*]; done) | (simp [isEmpty_bne]; done)), H', ⟨by first | omega | exact Nat.le_refl _⟩, ⟨by repeat (first | (with_reducible first | exact HB.out | apply below_alloc | apply pw_below_drewN | apply below_drew1) | exact HB.out)⟩⟩
    case rest =>
      clear HC6
      try clear c1
      try clear c2
      try clear p2
      try clear c5
      try clear c6
      try clear c8
      try clear c8b0
      try clear c8b1
      try clear c10
      try clear c10b0
      try clear c10b1
      try clear c11
      try clear c11b0
      try clear c11b1
      obtain ⟨kq, x0_5, rfl, HA, HJ5, HB⟩ := hcut
      cases kq with
      | zero => exact absurd HA.out (by simp [glossatorlaw4_TexteditTransformEqualsReference.j0])
      | succ kj5 =>
        have H := HA.out
        clear HA
        simp only [glossatorlaw4_TexteditTransformEqualsReference.j0] at H
        replace H := Option.bind_eq_some_iff.mp H
        obtain ⟨⟨t222, t223, t224⟩, A120, H⟩ := H
        replace H : ((glossatorref4_ValidateEdits.f kj5 x0_5 l1).bind fun t229 => (if t229 = 0 then ((glossatorref4_ValidateEdits.f kj5 x0_5 l2).bind fun t230 => (glossatorlaw4_TexteditTransformEqualsReference.j1 kj5 x0_5 l1 l2 t222 t223 t224 t230)) else (glossatorlaw4_TexteditTransformEqualsReference.j1 kj5 x0_5 l1 l2 t222 t223 t224 t229))) = some r := H
        have A12 := Aside0.mk A120
        clear A120
        replace H := Option.bind_eq_some_iff.mp H
        obtain ⟨t229, A130, H⟩ := H
        replace H : (if t229 = 0 then ((glossatorref4_ValidateEdits.f kj5 x0_5 l2).bind fun t230 => (glossatorlaw4_TexteditTransformEqualsReference.j1 kj5 x0_5 l1 l2 t222 t223 t224 t230)) else (glossatorlaw4_TexteditTransformEqualsReference.j1 kj5 x0_5 l1 l2 t222 t223 t224 t229)) = some r := H
        have A13 := Aside0.mk A130
        clear A130
        have HC14 := Aside0.mk H
        clear H
        go_upto_if 41 with (first | ((with_reducible refine gate_callee (f := 72) rfl ?_); refine goesL_ (some 33) rfl rfl Try.func72 (by kernel_rfl) rfl #[.string x0_5, .slice A1 l1.length c1, .slice A2 l2.length c2] rfl (by (try simp only [List.map_toArray, List.map_cons, List.map_nil]); first | done | rfl | (simp only [List.length_drop, List.length_take]; rfl)) ?_; (with_reducible refine (textedit_Transform.calls kj5 x0_5 _ _ l1 _ _ l2 t222 t223 t224 _ ?side1 ?side2 ?side3 ?side4 A12.out).mono ?_); (case side1 => repeat (first | exact (Kd.C_below HR1.out HB.out) | (with_reducible refine Kd.C_alloc ?_ _) | (with_reducible refine Kd.C_drewN ?_ _) | (with_reducible refine Kd.C_drew ?_))); (case side2 => exact HC1.out); (case side3 => repeat (first | exact (Kd.C_below HR2.out HB.out) | (with_reducible refine Kd.C_alloc ?_ _) | (with_reducible refine Kd.C_drewN ?_ _) | (with_reducible refine Kd.C_drew ?_))); (case side4 => exact HC2.out); rintro e w15 ⟨v225, v227, rfl, ho0, ho1, hb⟩; refine ⟨_, rfl, ?_⟩; have n0_ := Aside0.mk (Kd.R_lower ho0 (below_size (by repeat (first | (with_reducible first | exact HB.out | apply below_alloc | apply pw_below_drewN | apply below_drew1) | exact HB.out)))); have n1_ := Aside0.mk (Kd.R_lower ho1 (below_size (by repeat (first | (with_reducible first | exact HB.out | apply below_alloc | apply pw_below_drewN | apply below_drew1) | exact HB.out)))); have n2_ := Aside0.mk (below_step (by repeat (first | (with_reducible first | exact HB.out | apply below_alloc | apply pw_below_drewN | apply below_drew1) | exact HB.out)) hb); clear HB; have HO226 := n0_; have HO228 := n1_; have HB := n2_; clear n0_ n1_ n2_; (try clear hb); (try clear hb2); (try clear hk); (try clear hi); (try clear ho0); (try clear ho1)) | ((with_reducible refine gate_callee (f := 65) rfl ?_); refine goesL_ (some 39) rfl rfl Try.func65 (by kernel_rfl) rfl #[.string x0_5, .slice A1 l1.length c1] rfl (by (try simp only [List.map_toArray, List.map_cons, List.map_nil]); first | done | rfl | (simp only [List.length_drop, List.length_take]; rfl)) ?_; (with_reducible refine (glossatorref4_ValidateEdits.calls kj5 x0_5 _ _ l1 t229 _ ?side1 ?side2 A13.out).mono ?_); (case side1 => repeat (first | exact (Kd.C_below HR1.out HB.out) | (with_reducible refine Kd.C_alloc ?_ _) | (with_reducible refine Kd.C_drewN ?_ _) | (with_reducible refine Kd.C_drew ?_))); (case side2 => exact HC1.out); rintro e w16 ⟨rfl, hb⟩; refine ⟨_, rfl, ?_⟩; have n0_ := Aside0.mk (Kd.R_below (by (with_reducible repeat (first | apply Kd.R_alloc | apply Kd.R_drewN | apply Kd.R_drew)); exact HO226.out) hb); have n1_ := Aside0.mk (Kd.R_below (by (with_reducible repeat (first | apply Kd.R_alloc | apply Kd.R_drewN | apply Kd.R_drew)); exact HO228.out) hb); have n2_ := Aside0.mk (below_step (by repeat (first | (with_reducible first | exact HB.out | apply below_alloc | apply pw_below_drewN | apply below_drew1) | exact HB.out)) hb); clear HO226; clear HO228; clear HB; have HO226 := n0_; have HO228 := n1_; have HB := n2_; clear n0_ n1_ n2_; (try clear hb); (try clear hb2); (try clear hk); (try clear hi)))
        (try simp only [Act.put, List.setIfInBounds_toArray, List.set_cons_zero, List.set_cons_succ])
        go_cut [10] (fun v10 wc => ∃ (kq : Nat) (x10_13 : Int), v10 = .int .i64 x10_13 ∧ Aside0 (glossatorlaw4_TexteditTransformEqualsReference.j1 kq x0_5 l1 l2 t222 t223 t224 x10_13 = some r) ∧ Aside0 (kq ≤ kj5) ∧ Aside0 (Kd.R k137 137 wc w.heap.size (fun _ => True) v225 t222) ∧ Aside0 (Kd.R k137 137 wc w.heap.size (fun _ => True) v227 t223) ∧ Aside0 (Below w.heap.size w wc))
        case first =>
          have H := HC14.out
          clear HC14
          by_cases c17 : t229 = 0
          · rw [if_pos c17] at H
            have c17b0 : (t229 == 0) = true := beq_iff_eq.mpr c17
            have c17b1 : (t229 != 0) = false := bne_eq_false_iff_eq.mpr c17
            clear c17
            (first | rw [c17b0] | (simp only [i64_w, i32_w]; rw [c17b0]) | skip)
            replace H := Option.bind_eq_some_iff.mp H
            obtain ⟨t230, A180, H⟩ := H
            replace H : (glossatorlaw4_TexteditTransformEqualsReference.j1 kj5 x0_5 l1 l2 t222 t223 t224 t230) = some r := H
            have A18 := Aside0.mk A180
            clear A180
            have H' := Aside0.mk H
            clear H
            go_wp2_with (first | ((with_reducible refine gate_callee (f := 65) rfl ?_); refine goesL_ (some 44) rfl rfl Try.func65 (by kernel_rfl) rfl #[.string x0_5, .slice A2 l2.length c2] rfl (by (try simp only [List.map_toArray, List.map_cons, List.map_nil]); first | done | rfl | (simp only [List.length_drop, List.length_take]; rfl)) ?_; (with_reducible refine (glossatorref4_ValidateEdits.calls kj5 x0_5 _ _ l2 t230 _ ?side1 ?side2 A18.out).mono ?_); (case side1 => repeat (first | exact (Kd.C_below HR2.out HB.out) | (with_reducible refine Kd.C_alloc ?_ _) | (with_reducible refine Kd.C_drewN ?_ _) | (with_reducible refine Kd.C_drew ?_))); (case side2 => exact HC2.out); rintro e w19 ⟨rfl, hb⟩; refine ⟨_, rfl, ?_⟩; have n0_ := Aside0.mk (Kd.R_below (by (with_reducible repeat (first | apply Kd.R_alloc | apply Kd.R_drewN | apply Kd.R_drew)); exact HO226.out) hb); have n1_ := Aside0.mk (Kd.R_below (by (with_reducible repeat (first | apply Kd.R_alloc | apply Kd.R_drewN | apply Kd.R_drew)); exact HO228.out) hb); have n2_ := Aside0.mk (below_step (by repeat (first | (with_reducible first | exact HB.out | apply below_alloc | apply pw_below_drewN | apply below_drew1) | exact HB.out)) hb); clear HO226; clear HO228; clear HB; have HO226 := n0_; have HO228 := n1_; have HB := n2_; clear n0_ n1_ n2_; (try clear hb); (try clear hb2); (try clear hk); (try clear hi)))
            go_meet
            case rel => exact ⟨_, (t230), (by first | rfl | (simp; done) | (simp [*]; done) | (simp [isEmpty_bne]; done)), H', ⟨by have := HJ5.out; first | omega | exact Nat.le_refl _⟩, ⟨by (with_reducible repeat (first | apply Kd.R_alloc | apply Kd.R_drewN | apply Kd.R_drew)); exact HO226.out⟩, ⟨by (with_reducible repeat (first | apply Kd.R_alloc | apply Kd.R_drewN | apply Kd.R_drew)); exact HO228.out⟩, ⟨by repeat (first | (with_reducible first | exact HB.out | apply below_alloc | apply pw_below_drewN | apply below_drew1) | exact HB.out)⟩⟩
          · rw [if_neg c17] at H
            have c17b0 : (t229 == 0) = false := beq_eq_false_iff_ne.mpr c17
            have c17b1 : (t229 != 0) = true := bne_iff_ne.mpr c17
            (first | rw [c17b0] | (simp only [i64_w, i32_w]; rw [c17b0]) | skip)
            have H' := Aside0.mk H
            clear H
            go_wp2
            go_meet
            case rel => exact ⟨_, (t229), (by first | rfl | (simp; done) | (simp [*]; done) | (simp [isEmpty_bne]; done)), H', ⟨by have := HJ5.out; first | omega | exact Nat.le_refl _⟩, ⟨by (with_reducible repeat (first | apply Kd.R_alloc | apply Kd.R_drewN | apply Kd.R_drew)); exact HO226.out⟩, ⟨by (with_reducible repeat (first | apply Kd.R_alloc | apply Kd.R_drewN | apply Kd.R_drew)); exact HO228.out⟩, ⟨by repeat (first | (with_reducible first | exact HB.out | apply below_alloc | apply pw_below_drewN | apply below_drew1) | exact HB.out)⟩⟩
        case rest =>
          clear HC14
          try clear c1
          try clear c2
          try clear p2
          try clear c5
          try clear c6
          try clear c7
          try clear c8
          try clear c8b0
          try clear c8b1
          try clear c10
          try clear c10b0
          try clear c10b1
          try clear c11
          try clear c11b0
          try clear c11b1
          try clear c13
          try clear c17
          try clear c17b0
          try clear c17b1
          try clear p2
          obtain ⟨kq, x10_13, rfl, HA, HJ13, HO_7, HO_8, HB⟩ := hcut
          cases kq with
          | zero => exact absurd HA.out (by simp [glossatorlaw4_TexteditTransformEqualsReference.j1])
          | succ kj13 =>
            have H := HA.out
            clear HA
            simp only [glossatorlaw4_TexteditTransformEqualsReference.j1] at H
            by_cases c20 : x10_13 = 0
            · rw [if_pos c20] at H
              have c20b0 : (x10_13 == 0) = true := beq_iff_eq.mpr c20
              have c20b1 : (x10_13 != 0) = false := bne_eq_false_iff_eq.mpr c20
              clear c20
              replace H := Option.bind_eq_some_iff.mp H
              obtain ⟨t231, A210, H⟩ := H
              replace H : ((glossatorref4_MergeEdits.f kj13 x0_5 l1 l2 true).bind fun t234 => ((glossatorref4_ApplyEdits.f kj13 x0_5 l2).bind fun t237 => ((glossatorref4_CanonicalEdits.f kj13 (t237.size : Int) t231).bind fun bt238 => ((glossatorref4_ApplyEdits.f kj13 x0_5 l1).bind fun t242 => ((glossatorref4_CanonicalEdits.f kj13 (t242.size : Int) t234).bind fun bt243 => (if (t234.length : Int) > 2000 then (glossatorlaw4_TexteditTransformEqualsReference.j2 kj13 t222 t223 t224 x10_13 ([] : List (S137)) ([] : List (S137)) bt238.1 bt243.1 true) else (if bt238.2 = true then (glossatorlaw4_TexteditTransformEqualsReference.j2 kj13 t222 t223 t224 x10_13 ([] : List (S137)) ([] : List (S137)) bt238.1 bt243.1 (!bt243.2)) else (glossatorlaw4_TexteditTransformEqualsReference.j2 kj13 t222 t223 t224 x10_13 ([] : List (S137)) ([] : List (S137)) bt238.1 bt243.1 true)))))))) = some r := H
              have A21 := Aside0.mk A210
              clear A210
              replace H := Option.bind_eq_some_iff.mp H
              obtain ⟨t234, A220, H⟩ := H
              replace H : ((glossatorref4_ApplyEdits.f kj13 x0_5 l2).bind fun t237 => ((glossatorref4_CanonicalEdits.f kj13 (t237.size : Int) t231).bind fun bt238 => ((glossatorref4_ApplyEdits.f kj13 x0_5 l1).bind fun t242 => ((glossatorref4_CanonicalEdits.f kj13 (t242.size : Int) t234).bind fun bt243 => (if (t234.length : Int) > 2000 then (glossatorlaw4_TexteditTransformEqualsReference.j2 kj13 t222 t223 t224 x10_13 ([] : List (S137)) ([] : List (S137)) bt238.1 bt243.1 true) else (if bt238.2 = true then (glossatorlaw4_TexteditTransformEqualsReference.j2 kj13 t222 t223 t224 x10_13 ([] : List (S137)) ([] : List (S137)) bt238.1 bt243.1 (!bt243.2)) else (glossatorlaw4_TexteditTransformEqualsReference.j2 kj13 t222 t223 t224 x10_13 ([] : List (S137)) ([] : List (S137)) bt238.1 bt243.1 true))))))) = some r := H
              have A22 := Aside0.mk A220
              clear A220
              replace H := Option.bind_eq_some_iff.mp H
              obtain ⟨t237, A230, H⟩ := H
              replace H : ((glossatorref4_CanonicalEdits.f kj13 (t237.size : Int) t231).bind fun bt238 => ((glossatorref4_ApplyEdits.f kj13 x0_5 l1).bind fun t242 => ((glossatorref4_CanonicalEdits.f kj13 (t242.size : Int) t234).bind fun bt243 => (if (t234.length : Int) > 2000 then (glossatorlaw4_TexteditTransformEqualsReference.j2 kj13 t222 t223 t224 x10_13 ([] : List (S137)) ([] : List (S137)) bt238.1 bt243.1 true) else (if bt238.2 = true then (glossatorlaw4_TexteditTransformEqualsReference.j2 kj13 t222 t223 t224 x10_13 ([] : List (S137)) ([] : List (S137)) bt238.1 bt243.1 (!bt243.2)) else (glossatorlaw4_TexteditTransformEqualsReference.j2 kj13 t222 t223 t224 x10_13 ([] : List (S137)) ([] : List (S137)) bt238.1 bt243.1 true)))))) = some r := H
              have A23 := Aside0.mk A230
              clear A230
              replace H := Option.bind_eq_some_iff.mp H
              obtain ⟨⟨t238, t239⟩, A240, H⟩ := H
              replace H : ((glossatorref4_ApplyEdits.f kj13 x0_5 l1).bind fun t242 => ((glossatorref4_CanonicalEdits.f kj13 (t242.size : Int) t234).bind fun bt243 => (if (t234.length : Int) > 2000 then (glossatorlaw4_TexteditTransformEqualsReference.j2 kj13 t222 t223 t224 x10_13 ([] : List (S137)) ([] : List (S137)) t238 bt243.1 true) else (if t239 = true then (glossatorlaw4_TexteditTransformEqualsReference.j2 kj13 t222 t223 t224 x10_13 ([] : List (S137)) ([] : List (S137)) t238 bt243.1 (!bt243.2)) else (glossatorlaw4_TexteditTransformEqualsReference.j2 kj13 t222 t223 t224 x10_13 ([] : List (S137)) ([] : List (S137)) t238 bt243.1 true))))) = some r := H
              have A24 := Aside0.mk A240
              clear A240
              replace H := Option.bind_eq_some_iff.mp H
              obtain ⟨t242, A250, H⟩ := H
              replace H : ((glossatorref4_CanonicalEdits.f kj13 (t242.size : Int) t234).bind fun bt243 => (if (t234.length : Int) > 2000 then (glossatorlaw4_TexteditTransformEqualsReference.j2 kj13 t222 t223 t224 x10_13 ([] : List (S137)) ([] : List (S137)) t238 bt243.1 true) else (if t239 = true then (glossatorlaw4_TexteditTransformEqualsReference.j2 kj13 t222 t223 t224 x10_13 ([] : List (S137)) ([] : List (S137)) t238 bt243.1 (!bt243.2)) else (glossatorlaw4_TexteditTransformEqualsReference.j2 kj13 t222 t223 t224 x10_13 ([] : List (S137)) ([] : List (S137)) t238 bt243.1 true)))) = some r := H
              have A25 := Aside0.mk A250
              clear A250
              replace H := Option.bind_eq_some_iff.mp H
              obtain ⟨⟨t243, t244⟩, A260, H⟩ := H
              replace H : (if (t234.length : Int) > 2000 then (glossatorlaw4_TexteditTransformEqualsReference.j2 kj13 t222 t223 t224 x10_13 ([] : List (S137)) ([] : List (S137)) t238 t243 true) else (if t239 = true then (glossatorlaw4_TexteditTransformEqualsReference.j2 kj13 t222 t223 t224 x10_13 ([] : List (S137)) ([] : List (S137)) t238 t243 (!t244)) else (glossatorlaw4_TexteditTransformEqualsReference.j2 kj13 t222 t223 t224 x10_13 ([] : List (S137)) ([] : List (S137)) t238 t243 true))) = some r := H
              have A26 := Aside0.mk A260
              clear A260
              have HC27 := Aside0.mk H
              clear H
              go_upto_region 14 with (first | ((with_reducible refine gate_callee (f := 73) rfl ?_); refine goesL_ (some 50) rfl rfl Try.func73 (by kernel_rfl) rfl #[.string x0_5, .slice A1 l1.length c1, .slice A2 l2.length c2, .bool false] rfl (by (try simp only [List.map_toArray, List.map_cons, List.map_nil]); first | done | rfl | (simp only [List.length_drop, List.length_take]; rfl)) ?_; (with_reducible refine (glossatorref4_MergeEdits.calls kj13 x0_5 (fun k_ => k_ < w.heap.size) _ _ l1 (fun k_ => k_ < w.heap.size) _ _ l2 false t231 _ ?side1 ?side2 A21.out).mono ?_); (case side1 => exact Kd.V_mk HC1.out (Kd.F_below (Kd.C_F k137_heap HR1.out) (by repeat (first | (with_reducible first | exact HB.out | apply below_alloc | apply pw_below_drewN | apply below_drew1) | exact HB.out)))); (case side2 => exact Kd.V_mk HC2.out (Kd.F_below (Kd.C_F k137_heap HR2.out) (by repeat (first | (with_reducible first | exact HB.out | apply below_alloc | apply pw_below_drewN | apply below_drew1) | exact HB.out)))); rintro e w28 ⟨v232, rfl, ho0, hb⟩; refine ⟨_, rfl, ?_⟩; have n0_ := Aside0.mk (Kd.R_below (by (with_reducible repeat (first | apply Kd.R_alloc | apply Kd.R_drewN | apply Kd.R_drew)); exact HO_7.out) hb); have n1_ := Aside0.mk (Kd.R_below (by (with_reducible repeat (first | apply Kd.R_alloc | apply Kd.R_drewN | apply Kd.R_drew)); exact HO_8.out) hb); have n2_ := Aside0.mk (Kd.R_lower (Kd.R_mono (ok' := fun k_ => True) ho0 (fun _ hk_ => trivial)) (below_size (by repeat (first | (with_reducible first | exact HB.out | apply below_alloc | apply pw_below_drewN | apply below_drew1) | exact HB.out)))); have n3_ := Aside0.mk (below_step (by repeat (first | (with_reducible first | exact HB.out | apply below_alloc | apply pw_below_drewN | apply below_drew1) | exact HB.out)) hb); clear HO_7; clear HO_8; clear HB; have HO_7 := n0_; have HO_8 := n1_; have HO233 := n2_; have HB := n3_; clear n0_ n1_ n2_ n3_; (try clear hb); (try clear hb2); (try clear hk); (try clear hi); (try clear ho0)) | ((with_reducible refine gate_callee (f := 73) rfl ?_); refine goesL_ (some 54) rfl rfl Try.func73 (by kernel_rfl) rfl #[.string x0_5, .slice A1 l1.length c1, .slice A2 l2.length c2, .bool true] rfl (by (try simp only [List.map_toArray, List.map_cons, List.map_nil]); first | done | rfl | (simp only [List.length_drop, List.length_take]; rfl)) ?_; (with_reducible refine (glossatorref4_MergeEdits.calls kj13 x0_5 (fun k_ => k_ < w.heap.size) _ _ l1 (fun k_ => k_ < w.heap.size) _ _ l2 true t234 _ ?side1 ?side2 A22.out).mono ?_); (case side1 => exact Kd.V_mk HC1.out (Kd.F_below (Kd.C_F k137_heap HR1.out) (by repeat (first | (with_reducible first | exact HB.out | apply below_alloc | apply pw_below_drewN | apply below_drew1) | exact HB.out)))); (case side2 => exact Kd.V_mk HC2.out (Kd.F_below (Kd.C_F k137_heap HR2.out) (by repeat (first | (with_reducible first | exact HB.out | apply below_alloc | apply pw_below_drewN | apply below_drew1) | exact HB.out)))); rintro e w29 ⟨v235, rfl, ho0, hb⟩; refine ⟨_, rfl, ?_⟩; have n0_ := Aside0.mk (Kd.R_below (by (with_reducible repeat (first | apply Kd.R_alloc | apply Kd.R_drewN | apply Kd.R_drew)); exact HO_7.out) hb); have n1_ := Aside0.mk (Kd.R_below (by (with_reducible repeat (first | apply Kd.R_alloc | apply Kd.R_drewN | apply Kd.R_drew)); exact HO_8.out) hb); have n2_ := Aside0.mk (Kd.R_elder' (by (with_reducible repeat (first | apply Kd.R_alloc | apply Kd.R_drewN | apply Kd.R_drew)); exact HO233.out) (Kd.R_base ho0) hb); have n3_ := Aside0.mk (Kd.R_lower (Kd.R_new' (Kd.R_mono (ok' := fun k_ => True) ho0 (fun _ hk_ => trivial)) (Kd.R_lt (by (with_reducible repeat (first | apply Kd.R_alloc | apply Kd.R_drewN | apply Kd.R_drew)); exact HO233.out))) (below_size (by repeat (first | (with_reducible first | exact HB.out | apply below_alloc | apply pw_below_drewN | apply below_drew1) | exact HB.out)))); have n4_ := Aside0.mk (below_step (by repeat (first | (with_reducible first | exact HB.out | apply below_alloc | apply pw_below_drewN | apply below_drew1) | exact HB.out)) hb); clear HO_7; clear HO_8; clear HO233; clear HB; have HO_7 := n0_; have HO_8 := n1_; have HO233 := n2_; have HO236 := n3_; have HB := n4_; clear n0_ n1_ n2_ n3_ n4_; (try clear hb); (try clear hb2); (try clear hk); (try clear hi); (try clear ho0)) | ((with_reducible refine gate_callee (f := 66) rfl ?_); refine goesL_ (some 58) rfl rfl Try.func66 (by kernel_rfl) rfl #[.string x0_5, .slice A2 l2.length c2] rfl (by (try simp only [List.map_toArray, List.map_cons, List.map_nil]); first | done | rfl | (simp only [List.length_drop, List.length_take]; rfl)) ?_; (with_reducible refine (glossatorref4_ApplyEdits.calls kj13 x0_5 _ _ l2 t237 _ ?side1 ?side2 A23.out).mono ?_); (case side1 => repeat (first | exact (Kd.C_below HR2.out HB.out) | (with_reducible refine Kd.C_alloc ?_ _) | (with_reducible refine Kd.C_drewN ?_ _) | (with_reducible refine Kd.C_drew ?_))); (case side2 => exact HC2.out); rintro e w' ⟨rfl, ⟨nd, rfl⟩⟩; refine ⟨_, rfl, ?_⟩; obtain ⟨Ao30, co30, eo30⟩ := Kd.R_slice HO233.out; subst eo30) | ((with_reducible refine gate_callee (f := 74) rfl ?_); refine goesL_ (some 61) rfl rfl Try.func74 (by kernel_rfl) rfl #[.int .i64 (t237.size : Int), .slice Ao30 t231.length co30] rfl (by (try simp only [List.map_toArray, List.map_cons, List.map_nil]); first | done | rfl | (simp only [List.length_drop, List.length_take]; rfl)) ?_; (with_reducible refine (glossatorref4_CanonicalEdits.calls kj13 (t237.size : Int) _ _ t231 t238 t239 _ ?side1 ?side2 A24.out).mono ?_); (case side1 => repeat (first | exact (Kd.R_reads' HO233.out).2.2 | (with_reducible refine Kd.C_alloc ?_ _) | (with_reducible refine Kd.C_drewN ?_ _) | (with_reducible refine Kd.C_drew ?_))); (case side2 => exact (Kd.R_reads' HO233.out).2.1); rintro e w31 ⟨v240, rfl, ho0, hb⟩; refine ⟨_, rfl, ?_⟩; have n0_ := Aside0.mk (Kd.R_elder' (by (with_reducible repeat (first | apply Kd.R_alloc | apply Kd.R_drewN | apply Kd.R_drew)); exact HO_7.out) (Kd.R_base ho0) hb); have n1_ := Aside0.mk (Kd.R_elder' (by (with_reducible repeat (first | apply Kd.R_alloc | apply Kd.R_drewN | apply Kd.R_drew)); exact HO_8.out) (Kd.R_base ho0) hb); have n2_ := Aside0.mk (Kd.R_below (by (with_reducible repeat (first | apply Kd.R_alloc | apply Kd.R_drewN | apply Kd.R_drew)); exact HO233.out) hb); have n3_ := Aside0.mk (Kd.R_below (by (with_reducible repeat (first | apply Kd.R_alloc | apply Kd.R_drewN | apply Kd.R_drew)); exact HO236.out) hb); have n4_ := Aside0.mk (Kd.R_lower (Kd.R_new' (Kd.R_new' ho0 (Kd.R_lt (by (with_reducible repeat (first | apply Kd.R_alloc | apply Kd.R_drewN | apply Kd.R_drew)); exact HO_7.out))) (Kd.R_lt (by (with_reducible repeat (first | apply Kd.R_alloc | apply Kd.R_drewN | apply Kd.R_drew)); exact HO_8.out))) (below_size (by repeat (first | (with_reducible first | exact HB.out | apply below_alloc | apply pw_below_drewN | apply below_drew1) | exact HB.out)))); have n5_ := Aside0.mk (below_step (by repeat (first | (with_reducible first | exact HB.out | apply below_alloc | apply pw_below_drewN | apply below_drew1) | exact HB.out)) hb); clear HO_7; clear HO_8; clear HO233; clear HO236; clear HB; have HO_7 := n0_; have HO_8 := n1_; have HO233 := n2_; have HO236 := n3_; have HO241 := n4_; have HB := n5_; clear n0_ n1_ n2_ n3_ n4_ n5_; (try clear hb); (try clear hb2); (try clear hk); (try clear hi); (try clear ho0)) | ((with_reducible refine gate_callee (f := 66) rfl ?_); refine goesL_ (some 67) rfl rfl Try.func66 (by kernel_rfl) rfl #[.string x0_5, .slice A1 l1.length c1] rfl (by (try simp only [List.map_toArray, List.map_cons, List.map_nil]); first | done | rfl | (simp only [List.length_drop, List.length_take]; rfl)) ?_; (with_reducible refine (glossatorref4_ApplyEdits.calls kj13 x0_5 _ _ l1 t242 _ ?side1 ?side2 A25.out).mono ?_); (case side1 => repeat (first | exact (Kd.C_below HR1.out HB.out) | (with_reducible refine Kd.C_alloc ?_ _) | (with_reducible refine Kd.C_drewN ?_ _) | (with_reducible refine Kd.C_drew ?_))); (case side2 => exact HC1.out); rintro e w' ⟨rfl, ⟨nd, rfl⟩⟩; refine ⟨_, rfl, ?_⟩; obtain ⟨Ao32, co32, eo32⟩ := Kd.R_slice HO236.out; subst eo32) | ((with_reducible refine gate_callee (f := 74) rfl ?_); refine goesL_ (some 70) rfl rfl Try.func74 (by kernel_rfl) rfl #[.int .i64 (t242.size : Int), .slice Ao32 t234.length co32] rfl (by (try simp only [List.map_toArray, List.map_cons, List.map_nil]); first | done | rfl | (simp only [List.length_drop, List.length_take]; rfl)) ?_; (with_reducible refine (glossatorref4_CanonicalEdits.calls kj13 (t242.size : Int) _ _ t234 t243 t244 _ ?side1 ?side2 A26.out).mono ?_); (case side1 => repeat (first | exact (Kd.R_reads' HO236.out).2.2 | (with_reducible refine Kd.C_alloc ?_ _) | (with_reducible refine Kd.C_drewN ?_ _) | (with_reducible refine Kd.C_drew ?_))); (case side2 => exact (Kd.R_reads' HO236.out).2.1); rintro e w33 ⟨v245, rfl, ho0, hb⟩; refine ⟨_, rfl, ?_⟩; have n0_ := Aside0.mk (Kd.R_elder' (by (with_reducible repeat (first | apply Kd.R_alloc | apply Kd.R_drewN | apply Kd.R_drew)); exact HO_7.out) (Kd.R_base ho0) hb); have n1_ := Aside0.mk (Kd.R_elder' (by (with_reducible repeat (first | apply Kd.R_alloc | apply Kd.R_drewN | apply Kd.R_drew)); exact HO_8.out) (Kd.R_base ho0) hb); have n2_ := Aside0.mk (Kd.R_below (by (with_reducible repeat (first | apply Kd.R_alloc | apply Kd.R_drewN | apply Kd.R_drew)); exact HO233.out) hb); have n3_ := Aside0.mk (Kd.R_below (by (with_reducible repeat (first | apply Kd.R_alloc | apply Kd.R_drewN | apply Kd.R_drew)); exact HO236.out) hb); have n4_ := Aside0.mk (Kd.R_elder' (by (with_reducible repeat (first | apply Kd.R_alloc | apply Kd.R_drewN | apply Kd.R_drew)); exact HO241.out) (Kd.R_base ho0) hb); have n5_ := Aside0.mk (Kd.R_lower (Kd.R_new' (Kd.R_new' (Kd.R_new' ho0 (Kd.R_lt (by (with_reducible repeat (first | apply Kd.R_alloc | apply Kd.R_drewN | apply Kd.R_drew)); exact HO_7.out))) (Kd.R_lt (by (with_reducible repeat (first | apply Kd.R_alloc | apply Kd.R_drewN | apply Kd.R_drew)); exact HO_8.out))) (Kd.R_lt (by (with_reducible repeat (first | apply Kd.R_alloc | apply Kd.R_drewN | apply Kd.R_drew)); exact HO241.out))) (below_size (by repeat (first | (with_reducible first | exact HB.out | apply below_alloc | apply pw_below_drewN | apply below_drew1) | exact HB.out)))); have n6_ := Aside0.mk (below_step (by repeat (first | (with_reducible first | exact HB.out | apply below_alloc | apply pw_below_drewN | apply below_drew1) | exact HB.out)) hb); clear HO_7; clear HO_8; clear HO233; clear HO236; clear HO241; clear HB; have HO_7 := n0_; have HO_8 := n1_; have HO233 := n2_; have HO236 := n3_; have HO241 := n4_; have HO246 := n5_; have HB := n6_; clear n0_ n1_ n2_ n3_ n4_ n5_ n6_; (try clear hb); (try clear hb2); (try clear hk); (try clear hi); (try clear ho0)))
              (try simp only [Act.put, List.setIfInBounds_toArray, List.set_cons_zero, List.set_cons_succ])
              go_cut [83] (fun v83 wc => ∃ (kq : Nat) (x83_26 : Bool), v83 = .bool x83_26 ∧ Aside0 (glossatorlaw4_TexteditTransformEqualsReference.j2 kq t222 t223 t224 x10_13 ([] : List (S137)) ([] : List (S137)) t238 t243 x83_26 = some r) ∧ Aside0 (kq ≤ kj13) ∧ Aside0 (Kd.R k137 137 wc w.heap.size (fun _ => True) v225 t222) ∧ Aside0 (Kd.R k137 137 wc w.heap.size (fun _ => True) v227 t223) ∧ Aside0 (Kd.R k137 137 wc w.heap.size (fun _ => True) (.slice none 0 0) ([] : List (S137))) ∧ Aside0 (Kd.R k137 137 wc w.heap.size (fun _ => True) (.slice none 0 0) ([] : List (S137))) ∧ Aside0 (Kd.R k137 137 wc w.heap.size (fun _ => True) v240 t238) ∧ Aside0 (Kd.R k137 137 wc w.heap.size (fun _ => True) v245 t243) ∧ Aside0 (Below w.heap.size w wc))
              case first =>
                have H := HC27.out
                clear HC27
                by_cases c34 : (t234.length : Int) > 2000
                · rw [if_pos c34] at H
                  have c34b0 : decide (2000 < (t234.length : Int)) = true := decide_eq_true c34
                  have c34b1 : decide (2000 < t234.length) = true := decide_eq_true (by omega)
                  clear c34
                  (first | rw [c34b0] | (simp only [i64_w, i32_w]; rw [c34b0]) | skip)
                  have H' := Aside0.mk H
                  clear H
                  go_wp2
                  go_meet
                  case rel => exact ⟨_, (true), (by first | rfl | (simp; done) | (simp [*]; done) | (simp [isEmpty_bne]; done)), H', ⟨by have := HJ5.out; have := HJ13.out; first | omega | exact Nat.le_refl _⟩, ⟨by (with_reducible repeat (first | apply Kd.R_alloc | apply Kd.R_drewN | apply Kd.R_drew)); exact Kd.R_mono HO_7.out (fun _ _ => trivial)⟩, ⟨by (with_reducible repeat (first | apply Kd.R_alloc | apply Kd.R_drewN | apply Kd.R_drew)); exact Kd.R_mono HO_8.out (fun _ _ => trivial)⟩, ⟨by first | exact Kd.R_nil _ _ _ _ _ | exact Kd.N_nil _ _ _ _ _ | exact Kd.V_nil _ _ _ _ _ | exact Kd.Q_nil _ _ _ _ _ | exact Kd.S_nil _ _ _ _ _⟩, ⟨by first | exact Kd.R_nil _ _ _ _ _ | exact Kd.N_nil _ _ _ _ _ | exact Kd.V_nil _ _ _ _ _ | exact Kd.Q_nil _ _ _ _ _ | exact Kd.S_nil _ _ _ _ _⟩, ⟨by (with_reducible repeat (first | apply Kd.R_alloc | apply Kd.R_drewN | apply Kd.R_drew)); exact Kd.R_mono HO241.out (fun _ _ => trivial)⟩, ⟨by (with_reducible repeat (first | apply Kd.R_alloc | apply Kd.R_drewN | apply Kd.R_drew)); exact Kd.R_mono HO246.out (fun _ _ => trivial)⟩, ⟨by repeat (first | (with_reducible first | exact HB.out | apply below_alloc | apply pw_below_drewN | apply below_drew1) | exact HB.out)⟩⟩
                · rw [if_neg c34] at H
                  have c34b0 : decide (2000 < (t234.length : Int)) = false := decide_eq_false c34
                  have c34b1 : decide (2000 < t234.length) = false := decide_eq_false (by omega)
                  clear c34
                  (first | rw [c34b0] | (simp only [i64_w, i32_w]; rw [c34b0]) | skip)
                  by_cases c35 : t239 = true
                  · subst c35
                    have H1 : (glossatorlaw4_TexteditTransformEqualsReference.j2 kj13 t222 t223 t224 x10_13 ([] : List (S137)) ([] : List (S137)) t238 t243 (!t244)) = some r := by rw [if_pos rfl] at H; exact H
                    clear H
                    have H := H1
                    clear H1
                    have H' := Aside0.mk H
                    clear H
                    go_wp2
                    go_meet
                    case rel => exact ⟨_, (!t244), (by first | rfl | (simp; done) | (simp [*]; done) | (simp [isEmpty_bne]; done)), H', ⟨by have := HJ5.out; have := HJ13.out; first | omega | exact Nat.le_refl _⟩, ⟨by (with_reducible repeat (first | apply Kd.R_alloc | apply Kd.R_drewN | apply Kd.R_drew)); exact Kd.R_mono HO_7.out (fun _ _ => trivial)⟩, ⟨by (with_reducible repeat (first | apply Kd.R_alloc | apply Kd.R_drewN | apply Kd.R_drew)); exact Kd.R_mono HO_8.out (fun _ _ => trivial)⟩, ⟨by first | exact Kd.R_nil _ _ _ _ _ | exact Kd.N_nil _ _ _ _ _ | exact Kd.V_nil _ _ _ _ _ | exact Kd.Q_nil _ _ _ _ _ | exact Kd.S_nil _ _ _ _ _⟩, ⟨by first | exact Kd.R_nil _ _ _ _ _ | exact Kd.N_nil _ _ _ _ _ | exact Kd.V_nil _ _ _ _ _ | exact Kd.Q_nil _ _ _ _ _ | exact Kd.S_nil _ _ _ _ _⟩, ⟨by (with_reducible repeat (first | apply Kd.R_alloc | apply Kd.R_drewN | apply Kd.R_drew)); exact Kd.R_mono HO241.out (fun _ _ => trivial)⟩, ⟨by (with_reducible repeat (first | apply Kd.R_alloc | apply Kd.R_drewN | apply Kd.R_drew)); exact Kd.R_mono HO246.out (fun _ _ => trivial)⟩, ⟨by repeat (first | (with_reducible first | exact HB.out | apply below_alloc | apply pw_below_drewN | apply below_drew1) | exact HB.out)⟩⟩
                  · replace c35 := Bool.eq_false_iff.mpr c35
                    subst c35
                    have H1 : (glossatorlaw4_TexteditTransformEqualsReference.j2 kj13 t222 t223 t224 x10_13 ([] : List (S137)) ([] : List (S137)) t238 t243 true) = some r := by rw [if_neg (show ¬ (false = true) by decide)] at H; exact H
                    clear H
                    have H := H1
                    clear H1
                    have H' := Aside0.mk H
                    clear H
                    go_wp2
                    go_meet
                    case rel => exact ⟨_, (true), (by first | rfl | (simp; done) | (simp [*]; done) | (simp [isEmpty_bne]; done)), H', ⟨by have := HJ5.out; have := HJ13.out; first | omega | exact Nat.le_refl _⟩, ⟨by (with_reducible repeat (first | apply Kd.R_alloc | apply Kd.R_drewN | apply Kd.R_drew)); exact Kd.R_mono HO_7.out (fun _ _ => trivial)⟩, ⟨by (with_reducible repeat (first | apply Kd.R_alloc | apply Kd.R_drewN | apply Kd.R_drew)); exact Kd.R_mono HO_8.out (fun _ _ => trivial)⟩, ⟨by first | exact Kd.R_nil _ _ _ _ _ | exact Kd.N_nil _ _ _ _ _ | exact Kd.V_nil _ _ _ _ _ | exact Kd.Q_nil _ _ _ _ _ | exact Kd.S_nil _ _ _ _ _⟩, ⟨by first | exact Kd.R_nil _ _ _ _ _ | exact Kd.N_nil _ _ _ _ _ | exact Kd.V_nil _ _ _ _ _ | exact Kd.Q_nil _ _ _ _ _ | exact Kd.S_nil _ _ _ _ _⟩, ⟨by (with_reducible repeat (first | apply Kd.R_alloc | apply Kd.R_drewN | apply Kd.R_drew)); exact Kd.R_mono HO241.out (fun _ _ => trivial)⟩, ⟨by (with_reducible repeat (first | apply Kd.R_alloc | apply Kd.R_drewN | apply Kd.R_drew)); exact Kd.R_mono HO246.out (fun _ _ => trivial)⟩, ⟨by repeat (first | (with_reducible first | exact HB.out | apply below_alloc | apply pw_below_drewN | apply below_drew1) | exact HB.out)⟩⟩
              case rest =>
                clear HC27
                try clear c1
                try clear c2
                try clear p2
                try clear c3
                try clear c5
                try clear c6
                try clear c7
                try clear c8
                try clear c8b0
                try clear c8b1
                try clear c10
                try clear c10b0
                try clear c10b1
                try clear c11
                try clear c11b0
                try clear c11b1
                try clear c13
                try clear c17
                try clear c17b0
                try clear c17b1
                try clear c20
                try clear c20b0
                try clear c20b1
                try clear c34
                try clear c34b0
                try clear c34b1
                try clear c35
                try clear p2
                try clear HO_7
                try clear HO_8
                obtain ⟨kq, x83_26, rfl, HA, HJ26, HO_7, HO_8, HO_11, HO_12, HO_15, HO_17, HB⟩ := hcut
                cases kq with
                | zero => exact absurd HA.out (by simp [glossatorlaw4_TexteditTransformEqualsReference.j2])
                | succ kj26 =>
                  have H := HA.out
                  clear HA
                  simp only [glossatorlaw4_TexteditTransformEqualsReference.j2] at H
                  by_cases c36 : x83_26 = true
                  · subst c36
                    have H1 : ((glossatorref4_EqualEdits.f kj26 t222 ([] : List (S137))).bind fun t247 => (if t247 = true then ((glossatorref4_EqualEdits.f kj26 t223 ([] : List (S137))).bind fun t248 => (if t248 = true then (some (t224 == 2)) else (some false))) else (some false))) = some r := by rw [if_pos rfl] at H; exact H
                    clear H
                    have H := H1
                    clear H1
                    replace H := Option.bind_eq_some_iff.mp H
                    obtain ⟨t247, A370, H⟩ := H
                    replace H : (if t247 = true then ((glossatorref4_EqualEdits.f kj26 t223 ([] : List (S137))).bind fun t248 => (if t248 = true then (some (t224 == 2)) else (some false))) else (some false)) = some r := H
                    have A37 := Aside0.mk A370
                    clear A370
                    by_cases c38 : t247 = true
                    · subst c38
                      have H1 : ((glossatorref4_EqualEdits.f kj26 t223 ([] : List (S137))).bind fun t248 => (if t248 = true then (some (t224 == 2)) else (some false))) = some r := by rw [if_pos rfl] at H; exact H
                      clear H
                      have H := H1
                      clear H1
                      replace H := Option.bind_eq_some_iff.mp H
                      obtain ⟨t248, A390, H⟩ := H
                      replace H : (if t248 = true then (some (t224 == 2)) else (some false)) = some r := H
                      have A39 := Aside0.mk A390
                      clear A390
                      by_cases c40 : t248 = true
                      · subst c40
                        have H1 : (some (t224 == 2)) = some r := by rw [if_pos rfl] at H; exact H
                        clear H
                        have H := H1
                        clear H1
                        obtain rfl := Option.some.inj H
                        obtain ⟨Ao41, co41, eo41⟩ := Kd.R_slice HO_7.out
                        subst eo41
                        go_wp2_with (first | ((with_reducible refine gate_callee (f := 69) rfl ?_); refine goesL_ (some 88) rfl rfl Try.func69 (by kernel_rfl) rfl #[.slice Ao41 t222.length co41, .slice none ([] : List (S137)).length 0] rfl (by (try simp only [List.map_toArray, List.map_cons, List.map_nil]); first | done | (rw [show ([] : List (S137)).length = 0 from (Kd.R_reads' HO_11.out).1.symm] <;> rfl) | rfl | (simp only [List.length_drop, List.length_take]; rfl)) ?_; (with_reducible refine (glossatorref4_EqualEdits.calls kj26 _ _ t222 _ _ ([] : List (S137)) true _ ?side1 ?side2 ?side3 ?side4 A37.out).mono ?_); (case side1 => repeat (first | exact (Kd.R_reads' HO_7.out).2.2 | (with_reducible refine Kd.C_alloc ?_ _) | (with_reducible refine Kd.C_drewN ?_ _) | (with_reducible refine Kd.C_drew ?_))); (case side2 => exact (Kd.R_reads' HO_7.out).2.1); (case side3 => repeat (first | exact (Kd.R_reads' HO_11.out).2.2 | (with_reducible refine Kd.C_alloc ?_ _) | (with_reducible refine Kd.C_drewN ?_ _) | (with_reducible refine Kd.C_drew ?_))); (case side4 => rw [show ([] : List (S137)).length = 0 from (Kd.R_reads' HO_11.out).1.symm]; exact (Kd.R_reads' HO_11.out).2.1); rintro e w' ⟨rfl, ⟨nd, rfl⟩⟩; refine ⟨_, rfl, ?_⟩; obtain ⟨Ao42, co42, eo42⟩ := Kd.R_slice HO_8.out; subst eo42) | (go_at_call 69; refine calls_of_args (args' := #[.slice Ao42 t223.length co42, .slice none ([] : List (S137)).length 0]) (by first | (rw [show ([] : List (S137)).length = 0 from (Kd.R_reads' HO_12.out).1.symm] <;> rfl) | rfl) ?_; (with_reducible refine (glossatorref4_EqualEdits.calls kj26 _ _ t223 _ _ ([] : List (S137)) true _ ?side1 ?side2 ?side3 ?side4 A39.out).mono ?_); (case side1 => repeat (first | exact (Kd.R_reads' HO_8.out).2.2 | (with_reducible refine Kd.C_alloc ?_ _) | (with_reducible refine Kd.C_drewN ?_ _) | (with_reducible refine Kd.C_drew ?_))); (case side2 => exact (Kd.R_reads' HO_8.out).2.1); (case side3 => repeat (first | exact (Kd.R_reads' HO_12.out).2.2 | (with_reducible refine Kd.C_alloc ?_ _) | (with_reducible refine Kd.C_drewN ?_ _) | (with_reducible refine Kd.C_drew ?_))); (case side4 => rw [show ([] : List (S137)).length = 0 from (Kd.R_reads' HO_12.out).1.symm]; exact (Kd.R_reads' HO_12.out).2.1); rintro e w' ⟨rfl, ⟨nd, rfl⟩⟩))
                        go_ret
                        exact ⟨by first | rfl | (simp [errW_none, errW_some] <;> rfl) | (simp [*, errW_none, errW_some] <;> rfl), by repeat (first | (with_reducible first | exact HB.out | apply below_alloc | apply pw_below_drewN | apply below_drew1) | exact HB.out)⟩
                      · replace c40 := Bool.eq_false_iff.mpr c40
                        subst c40
                        have H1 : (some false) = some r := by rw [if_neg (show ¬ (false = true) by decide)] at H; exact H
                        clear H
                        have H := H1
                        clear H1
                        obtain rfl := Option.some.inj H
                        obtain ⟨Ao43, co43, eo43⟩ := Kd.R_slice HO_7.out
                        subst eo43
                        go_wp2_with (first | ((with_reducible refine gate_callee (f := 69) rfl ?_); refine goesL_ (some 88) rfl rfl Try.func69 (by kernel_rfl) rfl #[.slice Ao43 t222.length co43, .slice none ([] : List (S137)).length 0] rfl (by (try simp only [List.map_toArray, List.map_cons, List.map_nil]); first | done | (rw [show ([] : List (S137)).length = 0 from (Kd.R_reads' HO_11.out).1.symm] <;> rfl) | rfl | (simp only [List.length_drop, List.length_take]; rfl)) ?_; (with_reducible refine (glossatorref4_EqualEdits.calls kj26 _ _ t222 _ _ ([] : List (S137)) true _ ?side1 ?side2 ?side3 ?side4 A37.out).mono ?_); (case side1 => repeat (first | exact (Kd.R_reads' HO_7.out).2.2 | (with_reducible refine Kd.C_alloc ?_ _) | (with_reducible refine Kd.C_drewN ?_ _) | (with_reducible refine Kd.C_drew ?_))); (case side2 => exact (Kd.R_reads' HO_7.out).2.1); (case side3 => repeat (first | exact (Kd.R_reads' HO_11.out).2.2 | (with_reducible refine Kd.C_alloc ?_ _) | (with_reducible refine Kd.C_drewN ?_ _) | (with_reducible refine Kd.C_drew ?_))); (case side4 => rw [show ([] : List (S137)).length = 0 from (Kd.R_reads' HO_11.out).1.symm]; exact (Kd.R_reads' HO_11.out).2.1); rintro e w' ⟨rfl, ⟨nd, rfl⟩⟩; refine ⟨_, rfl, ?_⟩; obtain ⟨Ao44, co44, eo44⟩ := Kd.R_slice HO_8.out; subst eo44) | (go_at_call 69; refine calls_of_args (args' := #[.slice Ao44 t223.length co44, .slice none ([] : List (S137)).length 0]) (by first | (rw [show ([] : List (S137)).length = 0 from (Kd.R_reads' HO_12.out).1.symm] <;> rfl) | rfl) ?_; (with_reducible refine (glossatorref4_EqualEdits.calls kj26 _ _ t223 _ _ ([] : List (S137)) false _ ?side1 ?side2 ?side3 ?side4 A39.out).mono ?_); (case side1 => repeat (first | exact (Kd.R_reads' HO_8.out).2.2 | (with_reducible refine Kd.C_alloc ?_ _) | (with_reducible refine Kd.C_drewN ?_ _) | (with_reducible refine Kd.C_drew ?_))); (case side2 => exact (Kd.R_reads' HO_8.out).2.1); (case side3 => repeat (first | exact (Kd.R_reads' HO_12.out).2.2 | (with_reducible refine Kd.C_alloc ?_ _) | (with_reducible refine Kd.C_drewN ?_ _) | (with_reducible refine Kd.C_drew ?_))); (case side4 => rw [show ([] : List (S137)).length = 0 from (Kd.R_reads' HO_12.out).1.symm]; exact (Kd.R_reads' HO_12.out).2.1); rintro e w' ⟨rfl, ⟨nd, rfl⟩⟩))
                        go_ret
                        exact ⟨by first | rfl | (simp [errW_none, errW_some] <;> rfl) | (simp [*, errW_none, errW_some] <;> rfl), by repeat (first | (with_reducible first | exact HB.out | apply below_alloc | apply pw_below_drewN | apply below_drew1) | exact HB.out)⟩
                    · replace c38 := Bool.eq_false_iff.mpr c38
                      subst c38
                      have H1 : (some false) = some r := by rw [if_neg (show ¬ (false = true) by decide)] at H; exact H
                      clear H
                      have H := H1
                      clear H1
                      obtain rfl := Option.some.inj H
                      obtain ⟨Ao45, co45, eo45⟩ := Kd.R_slice HO_7.out
                      subst eo45
                      go_wp2_with (first | ((with_reducible refine gate_callee (f := 69) rfl ?_); refine goesL_ (some 88) rfl rfl Try.func69 (by kernel_rfl) rfl #[.slice Ao45 t222.length co45, .slice none ([] : List (S137)).length 0] rfl (by (try simp only [List.map_toArray, List.map_cons, List.map_nil]); first | done | (rw [show ([] : List (S137)).length = 0 from (Kd.R_reads' HO_11.out).1.symm] <;> rfl) | rfl | (simp only [List.length_drop, List.length_take]; rfl)) ?_; (with_reducible refine (glossatorref4_EqualEdits.calls kj26 _ _ t222 _ _ ([] : List (S137)) false _ ?side1 ?side2 ?side3 ?side4 A37.out).mono ?_); (case side1 => repeat (first | exact (Kd.R_reads' HO_7.out).2.2 | (with_reducible refine Kd.C_alloc ?_ _) | (with_reducible refine Kd.C_drewN ?_ _) | (with_reducible refine Kd.C_drew ?_))); (case side2 => exact (Kd.R_reads' HO_7.out).2.1); (case side3 => repeat (first | exact (Kd.R_reads' HO_11.out).2.2 | (with_reducible refine Kd.C_alloc ?_ _) | (with_reducible refine Kd.C_drewN ?_ _) | (with_reducible refine Kd.C_drew ?_))); (case side4 => rw [show ([] : List (S137)).length = 0 from (Kd.R_reads' HO_11.out).1.symm]; exact (Kd.R_reads' HO_11.out).2.1); rintro e w' ⟨rfl, ⟨nd, rfl⟩⟩; refine ⟨_, rfl, ?_⟩))
                      go_ret
                      exact ⟨by first | rfl | (simp [errW_none, errW_some] <;> rfl) | (simp [*, errW_none, errW_some] <;> rfl), by repeat (first | (with_reducible first | exact HB.out | apply below_alloc | apply pw_below_drewN | apply below_drew1) | exact HB.out)⟩
                  · replace c36 := Bool.eq_false_iff.mpr c36
                    subst c36
                    have H1 : ((glossatorref4_EqualEdits.f kj26 t222 t238).bind fun t249 => (if t249 = true then ((glossatorref4_EqualEdits.f kj26 t223 t243).bind fun t250 => (if t250 = true then (some (t224 == x10_13)) else (some false))) else (some false))) = some r := by rw [if_neg (show ¬ (false = true) by decide)] at H; exact H
                    clear H
                    have H := H1
                    clear H1
                    replace H := Option.bind_eq_some_iff.mp H
                    obtain ⟨t249, A460, H⟩ := H
                    replace H : (if t249 = true then ((glossatorref4_EqualEdits.f kj26 t223 t243).bind fun t250 => (if t250 = true then (some (t224 == x10_13)) else (some false))) else (some false)) = some r := H
                    have A46 := Aside0.mk A460
                    clear A460
                    by_cases c47 : t249 = true
                    · subst c47
                      have H1 : ((glossatorref4_EqualEdits.f kj26 t223 t243).bind fun t250 => (if t250 = true then (some (t224 == x10_13)) else (some false))) = some r := by rw [if_pos rfl] at H; exact H
                      clear H
                      have H := H1
                      clear H1
                      replace H := Option.bind_eq_some_iff.mp H
                      obtain ⟨t250, A480, H⟩ := H
                      replace H : (if t250 = true then (some (t224 == x10_13)) else (some false)) = some r := H
                      have A48 := Aside0.mk A480
                      clear A480
                      by_cases c49 : t250 = true
                      · subst c49
                        have H1 : (some (t224 == x10_13)) = some r := by rw [if_pos rfl] at H; exact H
                        clear H
                        have H := H1
                        clear H1
                        obtain rfl := Option.some.inj H
                        obtain ⟨Ao50, co50, eo50⟩ := Kd.R_slice HO_7.out
                        subst eo50
                        obtain ⟨Ao51, co51, eo51⟩ := Kd.R_slice HO_15.out
                        subst eo51
                        go_wp2_with (first | ((with_reducible refine gate_callee (f := 69) rfl ?_); refine goesL_ (some 88) rfl rfl Try.func69 (by kernel_rfl) rfl #[.slice Ao50 t222.length co50, .slice Ao51 t238.length co51] rfl (by (try simp only [List.map_toArray, List.map_cons, List.map_nil]); first | done | rfl | (simp only [List.length_drop, List.length_take]; rfl)) ?_; (with_reducible refine (glossatorref4_EqualEdits.calls kj26 _ _ t222 _ _ t238 true _ ?side1 ?side2 ?side3 ?side4 A46.out).mono ?_); (case side1 => repeat (first | exact (Kd.R_reads' HO_7.out).2.2 | (with_reducible refine Kd.C_alloc ?_ _) | (with_reducible refine Kd.C_drewN ?_ _) | (with_reducible refine Kd.C_drew ?_))); (case side2 => exact (Kd.R_reads' HO_7.out).2.1); (case side3 => repeat (first | exact (Kd.R_reads' HO_15.out).2.2 | (with_reducible refine Kd.C_alloc ?_ _) | (with_reducible refine Kd.C_drewN ?_ _) | (with_reducible refine Kd.C_drew ?_))); (case side4 => exact (Kd.R_reads' HO_15.out).2.1); rintro e w' ⟨rfl, ⟨nd, rfl⟩⟩; refine ⟨_, rfl, ?_⟩; obtain ⟨Ao52, co52, eo52⟩ := Kd.R_slice HO_8.out; subst eo52; obtain ⟨Ao53, co53, eo53⟩ := Kd.R_slice HO_17.out; subst eo53) | (go_at_call 69; (with_reducible refine (glossatorref4_EqualEdits.calls kj26 _ _ t223 _ _ t243 true _ ?side1 ?side2 ?side3 ?side4 A48.out).mono ?_); (case side1 => repeat (first | exact (Kd.R_reads' HO_8.out).2.2 | (with_reducible refine Kd.C_alloc ?_ _) | (with_reducible refine Kd.C_drewN ?_ _) | (with_reducible refine Kd.C_drew ?_))); (case side2 => exact (Kd.R_reads' HO_8.out).2.1); (case side3 => repeat (first | exact (Kd.R_reads' HO_17.out).2.2 | (with_reducible refine Kd.C_alloc ?_ _) | (with_reducible refine Kd.C_drewN ?_ _) | (with_reducible refine Kd.C_drew ?_))); (case side4 => exact (Kd.R_reads' HO_17.out).2.1); rintro e w' ⟨rfl, ⟨nd, rfl⟩⟩))
                        go_ret
                        exact ⟨by first | rfl | (simp [errW_none, errW_some] <;> rfl) | (simp [*, errW_none, errW_some] <;> rfl), by repeat (first | (with_reducible first | exact HB.out | apply below_alloc | apply pw_below_drewN | apply below_drew1) | exact HB.out)⟩
                      · replace c49 := Bool.eq_false_iff.mpr c49
                        subst c49
                        have H1 : (some false) = some r := by rw [if_neg (show ¬ (false = true) by decide)] at H; exact H
                        clear H
                        have H := H1
                        clear H1
                        obtain rfl := Option.some.inj H
                        obtain ⟨Ao54, co54, eo54⟩ := Kd.R_slice HO_7.out
                        subst eo54
                        obtain ⟨Ao55, co55, eo55⟩ := Kd.R_slice HO_15.out
                        subst eo55
                        go_wp2_with (first | ((with_reducible refine gate_callee (f := 69) rfl ?_); refine goesL_ (some 88) rfl rfl Try.func69 (by kernel_rfl) rfl #[.slice Ao54 t222.length co54, .slice Ao55 t238.length co55] rfl (by (try simp only [List.map_toArray, List.map_cons, List.map_nil]); first | done | rfl | (simp only [List.length_drop, List.length_take]; rfl)) ?_; (with_reducible refine (glossatorref4_EqualEdits.calls kj26 _ _ t222 _ _ t238 true _ ?side1 ?side2 ?side3 ?side4 A46.out).mono ?_); (case side1 => repeat (first | exact (Kd.R_reads' HO_7.out).2.2 | (with_reducible refine Kd.C_alloc ?_ _) | (with_reducible refine Kd.C_drewN ?_ _) | (with_reducible refine Kd.C_drew ?_))); (case side2 => exact (Kd.R_reads' HO_7.out).2.1); (case side3 => repeat (first | exact (Kd.R_reads' HO_15.out).2.2 | (with_reducible refine Kd.C_alloc ?_ _) | (with_reducible refine Kd.C_drewN ?_ _) | (with_reducible refine Kd.C_drew ?_))); (case side4 => exact (Kd.R_reads' HO_15.out).2.1); rintro e w' ⟨rfl, ⟨nd, rfl⟩⟩; refine ⟨_, rfl, ?_⟩; obtain ⟨Ao56, co56, eo56⟩ := Kd.R_slice HO_8.out; subst eo56; obtain ⟨Ao57, co57, eo57⟩ := Kd.R_slice HO_17.out; subst eo57) | (go_at_call 69; (with_reducible refine (glossatorref4_EqualEdits.calls kj26 _ _ t223 _ _ t243 false _ ?side1 ?side2 ?side3 ?side4 A48.out).mono ?_); (case side1 => repeat (first | exact (Kd.R_reads' HO_8.out).2.2 | (with_reducible refine Kd.C_alloc ?_ _) | (with_reducible refine Kd.C_drewN ?_ _) | (with_reducible refine Kd.C_drew ?_))); (case side2 => exact (Kd.R_reads' HO_8.out).2.1); (case side3 => repeat (first | exact (Kd.R_reads' HO_17.out).2.2 | (with_reducible refine Kd.C_alloc ?_ _) | (with_reducible refine Kd.C_drewN ?_ _) | (with_reducible refine Kd.C_drew ?_))); (case side4 => exact (Kd.R_reads' HO_17.out).2.1); rintro e w' ⟨rfl, ⟨nd, rfl⟩⟩))
                        go_ret
                        exact ⟨by first | rfl | (simp [errW_none, errW_some] <;> rfl) | (simp [*, errW_none, errW_some] <;> rfl), by repeat (first | (with_reducible first | exact HB.out | apply below_alloc | apply pw_below_drewN | apply below_drew1) | exact HB.out)⟩
                    · replace c47 := Bool.eq_false_iff.mpr c47
                      subst c47
                      have H1 : (some false) = some r := by rw [if_neg (show ¬ (false = true) by decide)] at H; exact H
                      clear H
                      have H := H1
                      clear H1
                      obtain rfl := Option.some.inj H
                      obtain ⟨Ao58, co58, eo58⟩ := Kd.R_slice HO_7.out
                      subst eo58
                      obtain ⟨Ao59, co59, eo59⟩ := Kd.R_slice HO_15.out
                      subst eo59
                      go_wp2_with (first | ((with_reducible refine gate_callee (f := 69) rfl ?_); refine goesL_ (some 88) rfl rfl Try.func69 (by kernel_rfl) rfl #[.slice Ao58 t222.length co58, .slice Ao59 t238.length co59] rfl (by (try simp only [List.map_toArray, List.map_cons, List.map_nil]); first | done | rfl | (simp only [List.length_drop, List.length_take]; rfl)) ?_; (with_reducible refine (glossatorref4_EqualEdits.calls kj26 _ _ t222 _ _ t238 false _ ?side1 ?side2 ?side3 ?side4 A46.out).mono ?_); (case side1 => repeat (first | exact (Kd.R_reads' HO_7.out).2.2 | (with_reducible refine Kd.C_alloc ?_ _) | (with_reducible refine Kd.C_drewN ?_ _) | (with_reducible refine Kd.C_drew ?_))); (case side2 => exact (Kd.R_reads' HO_7.out).2.1); (case side3 => repeat (first | exact (Kd.R_reads' HO_15.out).2.2 | (with_reducible refine Kd.C_alloc ?_ _) | (with_reducible refine Kd.C_drewN ?_ _) | (with_reducible refine Kd.C_drew ?_))); (case side4 => exact (Kd.R_reads' HO_15.out).2.1); rintro e w' ⟨rfl, ⟨nd, rfl⟩⟩; refine ⟨_, rfl, ?_⟩))
                      go_ret
                      exact ⟨by first | rfl | (simp [errW_none, errW_some] <;> rfl) | (simp [*, errW_none, errW_some] <;> rfl), by repeat (first | (with_reducible first | exact HB.out | apply below_alloc | apply pw_below_drewN | apply below_drew1) | exact HB.out)⟩
            · rw [if_neg c20] at H
              have c20b0 : (x10_13 == 0) = false := beq_eq_false_iff_ne.mpr c20
              have c20b1 : (x10_13 != 0) = true := bne_iff_ne.mpr c20
              replace H := Option.bind_eq_some_iff.mp H
              obtain ⟨t251, A600, H⟩ := H
              replace H : (if t251 = true then ((glossatorref4_EqualEdits.f kj13 t223 ([] : List (S137))).bind fun t252 => (if t252 = true then (some (t224 == x10_13)) else (some false))) else (some false)) = some r := H
              have A60 := Aside0.mk A600
              clear A600
              by_cases c61 : t251 = true
              · subst c61
                have H1 : ((glossatorref4_EqualEdits.f kj13 t223 ([] : List (S137))).bind fun t252 => (if t252 = true then (some (t224 == x10_13)) else (some false))) = some r := by rw [if_pos rfl] at H; exact H
                clear H
                have H := H1
                clear H1
                replace H := Option.bind_eq_some_iff.mp H
                obtain ⟨t252, A620, H⟩ := H
                replace H : (if t252 = true then (some (t224 == x10_13)) else (some false)) = some r := H
                have A62 := Aside0.mk A620
                clear A620
                by_cases c63 : t252 = true
                · subst c63
                  have H1 : (some (t224 == x10_13)) = some r := by rw [if_pos rfl] at H; exact H
                  clear H
                  have H := H1
                  clear H1
                  obtain rfl := Option.some.inj H
                  obtain ⟨Ao64, co64, eo64⟩ := Kd.R_slice HO_7.out
                  subst eo64
                  go_wp2_with (first | ((with_reducible refine gate_callee (f := 69) rfl ?_); refine goesL_ (some 88) rfl rfl Try.func69 (by kernel_rfl) rfl #[.slice Ao64 t222.length co64, .slice none 0 0] rfl (by (try simp only [List.map_toArray, List.map_cons, List.map_nil]); first | done | rfl | (simp only [List.length_drop, List.length_take]; rfl)) ?_; (refine (glossatorref4_EqualEdits.calls kj13 _ _ t222 _ _ ([] : List (S137)) true _ ?side1 ?side2 ?side3 ?side4 A60.out).mono ?_); (case side1 => repeat (first | exact (Kd.R_reads' HO_7.out).2.2 | (with_reducible refine Kd.C_alloc ?_ _) | (with_reducible refine Kd.C_drewN ?_ _) | (with_reducible refine Kd.C_drew ?_))); (case side2 => exact (Kd.R_reads' HO_7.out).2.1); (case side3 => exact Kd.C_nil _ _); (case side4 => exact Nat.le_refl _); rintro e w' ⟨rfl, ⟨nd, rfl⟩⟩; refine ⟨_, rfl, ?_⟩; obtain ⟨Ao65, co65, eo65⟩ := Kd.R_slice HO_8.out; subst eo65) | (go_at_call 69; (refine (glossatorref4_EqualEdits.calls kj13 _ _ t223 _ _ ([] : List (S137)) true _ ?side1 ?side2 ?side3 ?side4 A62.out).mono ?_); (case side1 => repeat (first | exact (Kd.R_reads' HO_8.out).2.2 | (with_reducible refine Kd.C_alloc ?_ _) | (with_reducible refine Kd.C_drewN ?_ _) | (with_reducible refine Kd.C_drew ?_))); (case side2 => exact (Kd.R_reads' HO_8.out).2.1); (case side3 => exact Kd.C_nil _ _); (case side4 => exact Nat.le_refl _); rintro e w' ⟨rfl, ⟨nd, rfl⟩⟩))
                  go_ret
                  exact ⟨by first | rfl | (simp [errW_none, errW_some] <;> rfl) | (simp [*, errW_none, errW_some] <;> rfl), by repeat (first | (with_reducible first | exact HB.out | apply below_alloc | apply pw_below_drewN | apply below_drew1) | exact HB.out)⟩
                · replace c63 := Bool.eq_false_iff.mpr c63
                  subst c63
                  have H1 : (some false) = some r := by rw [if_neg (show ¬ (false = true) by decide)] at H; exact H
                  clear H
                  have H := H1
                  clear H1
                  obtain rfl := Option.some.inj H
                  obtain ⟨Ao66, co66, eo66⟩ := Kd.R_slice HO_7.out
                  subst eo66
                  go_wp2_with (first | ((with_reducible refine gate_callee (f := 69) rfl ?_); refine goesL_ (some 88) rfl rfl Try.func69 (by kernel_rfl) rfl #[.slice Ao66 t222.length co66, .slice none 0 0] rfl (by (try simp only [List.map_toArray, List.map_cons, List.map_nil]); first | done | rfl | (simp only [List.length_drop, List.length_take]; rfl)) ?_; (refine (glossatorref4_EqualEdits.calls kj13 _ _ t222 _ _ ([] : List (S137)) true _ ?side1 ?side2 ?side3 ?side4 A60.out).mono ?_); (case side1 => repeat (first | exact (Kd.R_reads' HO_7.out).2.2 | (with_reducible refine Kd.C_alloc ?_ _) | (with_reducible refine Kd.C_drewN ?_ _) | (with_reducible refine Kd.C_drew ?_))); (case side2 => exact (Kd.R_reads' HO_7.out).2.1); (case side3 => exact Kd.C_nil _ _); (case side4 => exact Nat.le_refl _); rintro e w' ⟨rfl, ⟨nd, rfl⟩⟩; refine ⟨_, rfl, ?_⟩; obtain ⟨Ao67, co67, eo67⟩ := Kd.R_slice HO_8.out; subst eo67) | (go_at_call 69; (refine (glossatorref4_EqualEdits.calls kj13 _ _ t223 _ _ ([] : List (S137)) false _ ?side1 ?side2 ?side3 ?side4 A62.out).mono ?_); (case side1 => repeat (first | exact (Kd.R_reads' HO_8.out).2.2 | (with_reducible refine Kd.C_alloc ?_ _) | (with_reducible refine Kd.C_drewN ?_ _) | (with_reducible refine Kd.C_drew ?_))); (case side2 => exact (Kd.R_reads' HO_8.out).2.1); (case side3 => exact Kd.C_nil _ _); (case side4 => exact Nat.le_refl _); rintro e w' ⟨rfl, ⟨nd, rfl⟩⟩))
                  go_ret
                  exact ⟨by first | rfl | (simp [errW_none, errW_some] <;> rfl) | (simp [*, errW_none, errW_some] <;> rfl), by repeat (first | (with_reducible first | exact HB.out | apply below_alloc | apply pw_below_drewN | apply below_drew1) | exact HB.out)⟩
              · replace c61 := Bool.eq_false_iff.mpr c61
                subst c61
                have H1 : (some false) = some r := by rw [if_neg (show ¬ (false = true) by decide)] at H; exact H
                clear H
                have H := H1
                clear H1
                obtain rfl := Option.some.inj H
                obtain ⟨Ao68, co68, eo68⟩ := Kd.R_slice HO_7.out
                subst eo68
                go_wp2_with (first | ((with_reducible refine gate_callee (f := 69) rfl ?_); refine goesL_ (some 88) rfl rfl Try.func69 (by kernel_rfl) rfl #[.slice Ao68 t222.length co68, .slice none 0 0] rfl (by (try simp only [List.map_toArray, List.map_cons, List.map_nil]); first | done | rfl | (simp only [List.length_drop, List.length_take]; rfl)) ?_; (refine (glossatorref4_EqualEdits.calls kj13 _ _ t222 _ _ ([] : List (S137)) false _ ?side1 ?side2 ?side3 ?side4 A60.out).mono ?_); (case side1 => repeat (first | exact (Kd.R_reads' HO_7.out).2.2 | (with_reducible refine Kd.C_alloc ?_ _) | (with_reducible refine Kd.C_drewN ?_ _) | (with_reducible refine Kd.C_drew ?_))); (case side2 => exact (Kd.R_reads' HO_7.out).2.1); (case side3 => exact Kd.C_nil _ _); (case side4 => exact Nat.le_refl _); rintro e w' ⟨rfl, ⟨nd, rfl⟩⟩; refine ⟨_, rfl, ?_⟩))
                go_ret
                exact ⟨by first | rfl | (simp [errW_none, errW_some] <;> rfl) | (simp [*, errW_none, errW_some] <;> rfl), by repeat (first | (with_reducible first | exact HB.out | apply below_alloc | apply pw_below_drewN | apply below_drew1) | exact HB.out)⟩
  · replace c5 := Bool.eq_false_iff.mpr c5
    subst c5
    have H1 : (some false) = some r := by rw [if_neg (show ¬ (false = true) by decide)] at H; exact H
    clear H
    have H := H1
    clear H1
    obtain rfl := Option.some.inj H
    go_enter Try.func13, Try.ntmps13
    go_wp2_with (first | ((with_reducible refine gate_callee (f := 62) rfl ?_); refine goesL_ (some 19) rfl rfl Try.func62 (by kernel_rfl) rfl #[] rfl (by (try simp only [List.map_toArray, List.map_cons, List.map_nil]); first | done | rfl | (simp only [List.length_drop, List.length_take]; rfl)) ?_; (with_reducible refine (glossatorlaw4_texteditExamples.calls k  false _ A4.out).mono ?_); rintro e w69 ⟨rfl, hb⟩; refine ⟨_, rfl, ?_⟩; have n0_ := Aside0.mk (below_step (by repeat (first | (with_reducible first | exact HB.out | apply below_alloc | apply pw_below_drewN | apply below_drew1) | exact HB.out)) hb); clear HB; have HB := n0_; clear n0_; (try clear hb); (try clear hb2); (try clear hk); (try clear hi)))
    go_ret
    exact ⟨by first | rfl | (simp [errW_none, errW_some] <;> rfl) | (simp [*, errW_none, errW_some] <;> rfl), by repeat (first | (with_reducible first | exact HB.out | apply below_alloc | apply pw_below_drewN | apply below_drew1) | exact HB.out)⟩

end Go.Proofs.Ytbfedkmiekbcmaa.QTexteditTransformEqualsReference
