-- Written by gen.py (this repo's wip/), which runs the kit's print.py with more arms. Lean checks it.
import Derived.Test.YtpkdgdhfhgelbaaQFuzzyScoreEqualsReferencex0
import Derived.Test.YtpkdgdhfhgelbaaQFuzzyScoreEqualsReferencex1
import Derived.Test.YtpkdgdhfhgelbaaQFuzzyScoreEqualsReferencex2
import Derived.Test.YtpkdgdhfhgelbaaQFuzzyScoreEqualsReferencex3
import Derived.Test.YtpkdgdhfhgelbaaQFuzzyScoreEqualsReferencex5
import Derived.Test.YtpkdgdhfhgelbaaQFuzzyScoreEqualsReferencex7
namespace Go.Proofs.Ytpkdgdhfhgelbaa.QFuzzyScoreEqualsReference
open Go.RowKit Go.Proofs.YtpkdgdhfhgelbaaW.PrintWords Go.Proofs.YtpkdgdhfhgelbaaW.PrintLast Go.Proofs.YtpkdgdhfhgelbaaW.PrintMore
attribute [local go_sem] max2_int min2_int max_two min_two max_three min_three max_four min_four   -- for this text's walks alone
set_option linter.unusedVariables false
set_option linter.unusedSimpArgs false

private theorem isEmpty_bne {α : Type} [BEq α] (l : List α) : (l != []) = !l.isEmpty := by cases l <;> rfl

/-! ### glossatorlaw4_FuzzyScoreEqualsReference: function 3 -/
mutual
def glossatorlaw4_FuzzyScoreEqualsReference.j0 : Nat → ByteArray → ByteArray → Int → Int → Bool → Option (Bool)
  | 0, _, _, _, _, _ => none
  | k + 1, x0, x1, x2, x3, x26 => if x26 = true then (if 0 ≤ (mn (x0.size : Int) 6) then (if (mn (x0.size : Int) 6) ≤ (x0.size : Int) then (if 0 ≤ (mn (x1.size : Int) 14) then (if (mn (x1.size : Int) 14) ≤ (x1.size : Int) then (glossatorlaw4_FuzzyScoreEqualsReference.j1 k (x0.extract 0 ((mn (x0.size : Int) 6) : Int).toNat) (x1.extract 0 ((mn (x1.size : Int) 14) : Int).toNat) x2 x3) else (none)) else (none)) else (none)) else (none)) else (glossatorlaw4_FuzzyScoreEqualsReference.j1 k x0 x1 x2 x3)
def glossatorlaw4_FuzzyScoreEqualsReference.j1 : Nat → ByteArray → ByteArray → Int → Int → Option (Bool)
  | 0, _, _, _, _ => none
  | k + 1, x0, x1, x2, x3 => (fuzzy_Score.f x0 x1).bind fun bt186 => ((glossatorref4_FuzzyScore.f k x0 x1).bind fun bt191 => (if x2 ≥ 65 then (glossatorlaw4_FuzzyScoreEqualsReference.j2 k x2 x3 bt186.1 bt186.2.1 bt186.2.2 bt191.1 bt191.2.1 bt191.2.2 x2 x3 (decide (x2 ≤ 90))) else (glossatorlaw4_FuzzyScoreEqualsReference.j2 k x2 x3 bt186.1 bt186.2.1 bt186.2.2 bt191.1 bt191.2.1 bt191.2.2 x2 x3 false)))
def glossatorlaw4_FuzzyScoreEqualsReference.j2 : Nat → Int → Int → Int → List Int → Bool → Int → List Int → Bool → Int → Int → Bool → Option (Bool)
  | 0, _, _, _, _, _, _, _, _, _, _, _ => none
  | k + 1, x2, x3, x9, x10, x11, x12, x13, x14, x15, x16, x58 => if x58 = true then (glossatorlaw4_FuzzyScoreEqualsReference.j3 k x2 x3 x9 x10 x11 x12 x13 x14 ((x15 + 32) % 256) x16) else (glossatorlaw4_FuzzyScoreEqualsReference.j3 k x2 x3 x9 x10 x11 x12 x13 x14 x15 x16)
def glossatorlaw4_FuzzyScoreEqualsReference.j3 : Nat → Int → Int → Int → List Int → Bool → Int → List Int → Bool → Int → Int → Option (Bool)
  | 0, _, _, _, _, _, _, _, _, _, _ => none
  | k + 1, x2, x3, x9, x10, x11, x12, x13, x14, x15, x16 => if x16 ≥ 65 then (glossatorlaw4_FuzzyScoreEqualsReference.j4 k x2 x3 x9 x10 x11 x12 x13 x14 x15 x16 (decide (x16 ≤ 90))) else (glossatorlaw4_FuzzyScoreEqualsReference.j4 k x2 x3 x9 x10 x11 x12 x13 x14 x15 x16 false)
def glossatorlaw4_FuzzyScoreEqualsReference.j4 : Nat → Int → Int → Int → List Int → Bool → Int → List Int → Bool → Int → Int → Bool → Option (Bool)
  | 0, _, _, _, _, _, _, _, _, _, _, _ => none
  | k + 1, x2, x3, x9, x10, x11, x12, x13, x14, x15, x16, x66 => if x66 = true then (if x9 = x12 then ((glossatorref4_EqualInts.f k x10 x13).bind fun t196 => (if t196 = true then (if (x11 == x14) = true then ((fuzzy_EqualFold.f x2 x3).bind fun t197 => (some (t197 == (x15 == ((x16 + 32) % 256))))) else (some false)) else (some false))) else (some false)) else (if x9 = x12 then ((glossatorref4_EqualInts.f k x10 x13).bind fun t198 => (if t198 = true then (if (x11 == x14) = true then ((fuzzy_EqualFold.f x2 x3).bind fun t199 => (some (t199 == (x15 == x16)))) else (some false)) else (some false))) else (some false))
end
def glossatorlaw4_FuzzyScoreEqualsReference.f (k : Nat) (a0 : ByteArray) (a1 : ByteArray) (a2 : Int) (a3 : Int) : Option (Bool) := (glossatorlaw4_fuzzyExamples.f k).bind fun t185 => (if t185 = true then (if (a0.size : Int) ≤ 30 then (glossatorlaw4_FuzzyScoreEqualsReference.j0 k a0 a1 a2 a3 (decide ((a1.size : Int) ≤ 30))) else (glossatorlaw4_FuzzyScoreEqualsReference.j0 k a0 a1 a2 a3 false)) else (some false))
theorem glossatorlaw4_FuzzyScoreEqualsReference.mono_l : ∀ k, (∀ y0 y1 y2 y3 y4, LeO (glossatorlaw4_FuzzyScoreEqualsReference.j0 k y0 y1 y2 y3 y4) (glossatorlaw4_FuzzyScoreEqualsReference.j0 (k + 1) y0 y1 y2 y3 y4)) ∧ (∀ y0 y1 y2 y3, LeO (glossatorlaw4_FuzzyScoreEqualsReference.j1 k y0 y1 y2 y3) (glossatorlaw4_FuzzyScoreEqualsReference.j1 (k + 1) y0 y1 y2 y3)) ∧ (∀ y0 y1 y2 y3 y4 y5 y6 y7 y8 y9 y10, LeO (glossatorlaw4_FuzzyScoreEqualsReference.j2 k y0 y1 y2 y3 y4 y5 y6 y7 y8 y9 y10) (glossatorlaw4_FuzzyScoreEqualsReference.j2 (k + 1) y0 y1 y2 y3 y4 y5 y6 y7 y8 y9 y10)) ∧ (∀ y0 y1 y2 y3 y4 y5 y6 y7 y8 y9, LeO (glossatorlaw4_FuzzyScoreEqualsReference.j3 k y0 y1 y2 y3 y4 y5 y6 y7 y8 y9) (glossatorlaw4_FuzzyScoreEqualsReference.j3 (k + 1) y0 y1 y2 y3 y4 y5 y6 y7 y8 y9)) ∧ (∀ y0 y1 y2 y3 y4 y5 y6 y7 y8 y9 y10, LeO (glossatorlaw4_FuzzyScoreEqualsReference.j4 k y0 y1 y2 y3 y4 y5 y6 y7 y8 y9 y10) (glossatorlaw4_FuzzyScoreEqualsReference.j4 (k + 1) y0 y1 y2 y3 y4 y5 y6 y7 y8 y9 y10))
  | 0 => ⟨fun _ _ _ _ _ r h => by simp [glossatorlaw4_FuzzyScoreEqualsReference.j0] at h, fun _ _ _ _ r h => by simp [glossatorlaw4_FuzzyScoreEqualsReference.j1] at h, fun _ _ _ _ _ _ _ _ _ _ _ r h => by simp [glossatorlaw4_FuzzyScoreEqualsReference.j2] at h, fun _ _ _ _ _ _ _ _ _ _ r h => by simp [glossatorlaw4_FuzzyScoreEqualsReference.j3] at h, fun _ _ _ _ _ _ _ _ _ _ _ r h => by simp [glossatorlaw4_FuzzyScoreEqualsReference.j4] at h⟩
  | k + 1 => by
    obtain ⟨ih0, ih1, ih2, ih3, ih4⟩ := glossatorlaw4_FuzzyScoreEqualsReference.mono_l k
    refine ⟨?_, ?_, ?_, ?_, ?_⟩
    · intro y0 y1 y2 y3 y4
      unfold glossatorlaw4_FuzzyScoreEqualsReference.j0
      repeat' first
      | (with_reducible exact ih0 _ _ _ _ _)
      | (with_reducible exact ih1 _ _ _ _)
      | (with_reducible exact ih2 _ _ _ _ _ _ _ _ _ _ _)
      | (with_reducible exact ih3 _ _ _ _ _ _ _ _ _ _)
      | (with_reducible exact ih4 _ _ _ _ _ _ _ _ _ _ _)
      | (with_reducible exact glossatorlaw4_fuzzyExamples.mono _)
      | (with_reducible exact glossatorref4_EqualInts.mono _ _ _)
      | (with_reducible exact glossatorref4_FuzzyScore.mono _ _ _)
      | (with_reducible exact LeO.refl _)
      | (with_reducible exact LeO.none _)
      | (with_reducible refine LeO.ite ?_ ?_)
      | (with_reducible refine LeO.bind ?_ (fun _ => ?_))
      | exact ih0 _ _ _ _ _
      | exact ih1 _ _ _ _
      | exact ih2 _ _ _ _ _ _ _ _ _ _ _
      | exact ih3 _ _ _ _ _ _ _ _ _ _
      | exact ih4 _ _ _ _ _ _ _ _ _ _ _
      | exact glossatorlaw4_fuzzyExamples.mono _
      | exact glossatorref4_EqualInts.mono _ _ _
      | exact glossatorref4_FuzzyScore.mono _ _ _
      | exact LeO.none _
      | refine LeO.ite ?_ ?_
      | refine LeO.bind ?_ (fun _ => ?_)
    · intro y0 y1 y2 y3
      unfold glossatorlaw4_FuzzyScoreEqualsReference.j1
      repeat' first
      | (with_reducible exact ih0 _ _ _ _ _)
      | (with_reducible exact ih1 _ _ _ _)
      | (with_reducible exact ih2 _ _ _ _ _ _ _ _ _ _ _)
      | (with_reducible exact ih3 _ _ _ _ _ _ _ _ _ _)
      | (with_reducible exact ih4 _ _ _ _ _ _ _ _ _ _ _)
      | (with_reducible exact glossatorlaw4_fuzzyExamples.mono _)
      | (with_reducible exact glossatorref4_EqualInts.mono _ _ _)
      | (with_reducible exact glossatorref4_FuzzyScore.mono _ _ _)
      | (with_reducible exact LeO.refl _)
      | (with_reducible exact LeO.none _)
      | (with_reducible refine LeO.ite ?_ ?_)
      | (with_reducible refine LeO.bind ?_ (fun _ => ?_))
      | exact ih0 _ _ _ _ _
      | exact ih1 _ _ _ _
      | exact ih2 _ _ _ _ _ _ _ _ _ _ _
      | exact ih3 _ _ _ _ _ _ _ _ _ _
      | exact ih4 _ _ _ _ _ _ _ _ _ _ _
      | exact glossatorlaw4_fuzzyExamples.mono _
      | exact glossatorref4_EqualInts.mono _ _ _
      | exact glossatorref4_FuzzyScore.mono _ _ _
      | exact LeO.none _
      | refine LeO.ite ?_ ?_
      | refine LeO.bind ?_ (fun _ => ?_)
    · intro y0 y1 y2 y3 y4 y5 y6 y7 y8 y9 y10
      unfold glossatorlaw4_FuzzyScoreEqualsReference.j2
      repeat' first
      | (with_reducible exact ih0 _ _ _ _ _)
      | (with_reducible exact ih1 _ _ _ _)
      | (with_reducible exact ih2 _ _ _ _ _ _ _ _ _ _ _)
      | (with_reducible exact ih3 _ _ _ _ _ _ _ _ _ _)
      | (with_reducible exact ih4 _ _ _ _ _ _ _ _ _ _ _)
      | (with_reducible exact glossatorlaw4_fuzzyExamples.mono _)
      | (with_reducible exact glossatorref4_EqualInts.mono _ _ _)
      | (with_reducible exact glossatorref4_FuzzyScore.mono _ _ _)
      | (with_reducible exact LeO.refl _)
      | (with_reducible exact LeO.none _)
      | (with_reducible refine LeO.ite ?_ ?_)
      | (with_reducible refine LeO.bind ?_ (fun _ => ?_))
      | exact ih0 _ _ _ _ _
      | exact ih1 _ _ _ _
      | exact ih2 _ _ _ _ _ _ _ _ _ _ _
      | exact ih3 _ _ _ _ _ _ _ _ _ _
      | exact ih4 _ _ _ _ _ _ _ _ _ _ _
      | exact glossatorlaw4_fuzzyExamples.mono _
      | exact glossatorref4_EqualInts.mono _ _ _
      | exact glossatorref4_FuzzyScore.mono _ _ _
      | exact LeO.none _
      | refine LeO.ite ?_ ?_
      | refine LeO.bind ?_ (fun _ => ?_)
    · intro y0 y1 y2 y3 y4 y5 y6 y7 y8 y9
      unfold glossatorlaw4_FuzzyScoreEqualsReference.j3
      repeat' first
      | (with_reducible exact ih0 _ _ _ _ _)
      | (with_reducible exact ih1 _ _ _ _)
      | (with_reducible exact ih2 _ _ _ _ _ _ _ _ _ _ _)
      | (with_reducible exact ih3 _ _ _ _ _ _ _ _ _ _)
      | (with_reducible exact ih4 _ _ _ _ _ _ _ _ _ _ _)
      | (with_reducible exact glossatorlaw4_fuzzyExamples.mono _)
      | (with_reducible exact glossatorref4_EqualInts.mono _ _ _)
      | (with_reducible exact glossatorref4_FuzzyScore.mono _ _ _)
      | (with_reducible exact LeO.refl _)
      | (with_reducible exact LeO.none _)
      | (with_reducible refine LeO.ite ?_ ?_)
      | (with_reducible refine LeO.bind ?_ (fun _ => ?_))
      | exact ih0 _ _ _ _ _
      | exact ih1 _ _ _ _
      | exact ih2 _ _ _ _ _ _ _ _ _ _ _
      | exact ih3 _ _ _ _ _ _ _ _ _ _
      | exact ih4 _ _ _ _ _ _ _ _ _ _ _
      | exact glossatorlaw4_fuzzyExamples.mono _
      | exact glossatorref4_EqualInts.mono _ _ _
      | exact glossatorref4_FuzzyScore.mono _ _ _
      | exact LeO.none _
      | refine LeO.ite ?_ ?_
      | refine LeO.bind ?_ (fun _ => ?_)
    · intro y0 y1 y2 y3 y4 y5 y6 y7 y8 y9 y10
      unfold glossatorlaw4_FuzzyScoreEqualsReference.j4
      repeat' first
      | (with_reducible exact ih0 _ _ _ _ _)
      | (with_reducible exact ih1 _ _ _ _)
      | (with_reducible exact ih2 _ _ _ _ _ _ _ _ _ _ _)
      | (with_reducible exact ih3 _ _ _ _ _ _ _ _ _ _)
      | (with_reducible exact ih4 _ _ _ _ _ _ _ _ _ _ _)
      | (with_reducible exact glossatorlaw4_fuzzyExamples.mono _)
      | (with_reducible exact glossatorref4_EqualInts.mono _ _ _)
      | (with_reducible exact glossatorref4_FuzzyScore.mono _ _ _)
      | (with_reducible exact LeO.refl _)
      | (with_reducible exact LeO.none _)
      | (with_reducible refine LeO.ite ?_ ?_)
      | (with_reducible refine LeO.bind ?_ (fun _ => ?_))
      | exact ih0 _ _ _ _ _
      | exact ih1 _ _ _ _
      | exact ih2 _ _ _ _ _ _ _ _ _ _ _
      | exact ih3 _ _ _ _ _ _ _ _ _ _
      | exact ih4 _ _ _ _ _ _ _ _ _ _ _
      | exact glossatorlaw4_fuzzyExamples.mono _
      | exact glossatorref4_EqualInts.mono _ _ _
      | exact glossatorref4_FuzzyScore.mono _ _ _
      | exact LeO.none _
      | refine LeO.ite ?_ ?_
      | refine LeO.bind ?_ (fun _ => ?_)
theorem glossatorlaw4_FuzzyScoreEqualsReference.mono : ∀ a0 a1 a2 a3 k, LeO (glossatorlaw4_FuzzyScoreEqualsReference.f k a0 a1 a2 a3) (glossatorlaw4_FuzzyScoreEqualsReference.f (k + 1) a0 a1 a2 a3) := by
  intro a0 a1 a2 a3 k
  obtain ⟨ih0, ih1, ih2, ih3, ih4⟩ := glossatorlaw4_FuzzyScoreEqualsReference.mono_l k
  unfold glossatorlaw4_FuzzyScoreEqualsReference.f
  repeat' first
      | (with_reducible exact ih0 _ _ _ _ _)
      | (with_reducible exact ih1 _ _ _ _)
      | (with_reducible exact ih2 _ _ _ _ _ _ _ _ _ _ _)
      | (with_reducible exact ih3 _ _ _ _ _ _ _ _ _ _)
      | (with_reducible exact ih4 _ _ _ _ _ _ _ _ _ _ _)
      | (with_reducible exact glossatorlaw4_fuzzyExamples.mono _)
      | (with_reducible exact glossatorref4_EqualInts.mono _ _ _)
      | (with_reducible exact glossatorref4_FuzzyScore.mono _ _ _)
      | (with_reducible exact LeO.refl _)
      | (with_reducible exact LeO.none _)
      | (with_reducible refine LeO.ite ?_ ?_)
      | (with_reducible refine LeO.bind ?_ (fun _ => ?_))
      | exact ih0 _ _ _ _ _
      | exact ih1 _ _ _ _
      | exact ih2 _ _ _ _ _ _ _ _ _ _ _
      | exact ih3 _ _ _ _ _ _ _ _ _ _
      | exact ih4 _ _ _ _ _ _ _ _ _ _ _
      | exact glossatorlaw4_fuzzyExamples.mono _
      | exact glossatorref4_EqualInts.mono _ _ _
      | exact glossatorref4_FuzzyScore.mono _ _ _
      | exact LeO.none _
      | refine LeO.ite ?_ ?_
      | refine LeO.bind ?_ (fun _ => ?_)
set_option maxHeartbeats 8000000 in
set_option maxRecDepth 100000 in
theorem glossatorlaw4_FuzzyScoreEqualsReference.calls (k : Nat) (a0 : ByteArray) (a1 : ByteArray) (a2 : Int) (a3 : Int) (r : Bool) (w : World) (h : glossatorlaw4_FuzzyScoreEqualsReference.f k a0 a1 a2 a3 = some r) :
    Calls Try.prog 3 #[.string a0, .string a1, .int .u8 a2, .int .u8 a3] w fun e w' => e = .returned (.bool r) ∧ Below w.heap.size w w' := by
  have HB := Aside0.mk (Below.refl w.heap.size w)
  have H : ((glossatorlaw4_fuzzyExamples.f k).bind fun t185 => (if t185 = true then (if (a0.size : Int) ≤ 30 then (glossatorlaw4_FuzzyScoreEqualsReference.j0 k a0 a1 a2 a3 (decide ((a1.size : Int) ≤ 30))) else (glossatorlaw4_FuzzyScoreEqualsReference.j0 k a0 a1 a2 a3 false)) else (some false))) = some r := h
  clear h
  replace H := Option.bind_eq_some_iff.mp H
  obtain ⟨t185, A50, H⟩ := H
  replace H : (if t185 = true then (if (a0.size : Int) ≤ 30 then (glossatorlaw4_FuzzyScoreEqualsReference.j0 k a0 a1 a2 a3 (decide ((a1.size : Int) ≤ 30))) else (glossatorlaw4_FuzzyScoreEqualsReference.j0 k a0 a1 a2 a3 false)) else (some false)) = some r := H
  have A5 := Aside0.mk A50
  clear A50
  by_cases c6 : t185 = true
  · subst c6
    have H1 : (if (a0.size : Int) ≤ 30 then (glossatorlaw4_FuzzyScoreEqualsReference.j0 k a0 a1 a2 a3 (decide ((a1.size : Int) ≤ 30))) else (glossatorlaw4_FuzzyScoreEqualsReference.j0 k a0 a1 a2 a3 false)) = some r := by rw [if_pos rfl] at H; exact H
    clear H
    have H := H1
    clear H1
    have HC7 := Aside0.mk H
    clear H
    go_enter Try.func3, Try.ntmps3
    go_upto_region 3 with (first | (go_at_call 5; (with_reducible refine (glossatorlaw4_fuzzyExamples.calls k  true _ A5.out).mono ?_); rintro e w8 ⟨rfl, hb⟩; have n0_ := Aside0.mk (below_step (by repeat (first | (with_reducible first | exact HB.out | apply below_alloc | apply pw_below_drewN | apply below_drew1) | exact HB.out)) hb); clear HB; have HB := n0_; clear n0_; (try clear hb); (try clear hb2); (try clear hk); (try clear hi)))
    repeat (go_quiet (first | (go_at_call 5; (with_reducible refine (glossatorlaw4_fuzzyExamples.calls k  true _ A5.out).mono ?_); rintro e w8 ⟨rfl, hb⟩; have n0_ := Aside0.mk (below_step (by repeat (first | (with_reducible first | exact HB.out | apply below_alloc | apply pw_below_drewN | apply below_drew1) | exact HB.out)) hb); clear HB; have HB := n0_; clear n0_; (try clear hb); (try clear hb2); (try clear hk); (try clear hi))); go_upto_region 3 with (first | (go_at_call 5; (with_reducible refine (glossatorlaw4_fuzzyExamples.calls k  true _ A5.out).mono ?_); rintro e w8 ⟨rfl, hb⟩; have n0_ := Aside0.mk (below_step (by repeat (first | (with_reducible first | exact HB.out | apply below_alloc | apply pw_below_drewN | apply below_drew1) | exact HB.out)) hb); clear HB; have HB := n0_; clear n0_; (try clear hb); (try clear hb2); (try clear hk); (try clear hi))))
    (try simp only [Act.put, List.setIfInBounds_toArray, List.set_cons_zero, List.set_cons_succ])
    go_cut [26] (fun v26 wc => ∃ (kq : Nat) (x26_6 : Bool), v26 = .bool x26_6 ∧ Aside0 (glossatorlaw4_FuzzyScoreEqualsReference.j0 kq a0 a1 a2 a3 x26_6 = some r) ∧ Aside0 (kq ≤ k) ∧ Aside0 (Below w.heap.size w wc))
    case first =>
      have H := HC7.out
      clear HC7
      by_cases c9 : (a0.size : Int) ≤ 30
      · rw [if_pos c9] at H
        have c9b0 : decide ((a0.size : Int) ≤ 30) = true := decide_eq_true c9
        have c9b1 : decide (a0.size ≤ 30) = true := decide_eq_true (by omega)
        clear c9
        (first | rw [c9b1] | rw [c9b0] | (simp only [i64_w, i32_w]; rw [c9b0]) | skip)
        have H' := Aside0.mk H
        clear H
        go_wp2
        repeat (go_quiet (fail); try go_wp2)
        go_meet
        case rel => exact ⟨_, (decide ((a1.size : Int) ≤ 30)), (by first | rfl | (simp; done) | (simp [*]; done) | (simp [isEmpty_bne]; done)), H', ⟨by first | omega | exact Nat.le_refl _⟩, ⟨by repeat (first | (with_reducible first | exact HB.out | apply below_alloc | apply pw_below_drewN | apply below_drew1) | exact HB.out)⟩⟩
      · rw [if_neg c9] at H
        have c9b0 : decide ((a0.size : Int) ≤ 30) = false := decide_eq_false c9
        have c9b1 : decide (a0.size ≤ 30) = false := decide_eq_false (by omega)
        clear c9
        (first | rw [c9b1] | rw [c9b0] | (simp only [i64_w, i32_w]; rw [c9b0]) | skip)
        have H' := Aside0.mk H
        clear H
        go_wp2
        repeat (go_quiet (fail); try go_wp2)
        go_meet
        case rel => exact ⟨_, (false), (by first | rfl | (simp; done) | (simp [*]; done) | (simp [isEmpty_bne]; done)), H', ⟨by first | omega | exact Nat.le_refl _⟩, ⟨by repeat (first | (with_reducible first | exact HB.out | apply below_alloc | apply pw_below_drewN | apply below_drew1) | exact HB.out)⟩⟩
    case rest =>
      clear HC7
      try clear p2
      try clear c3
      try clear c6
      try clear c9
      try clear c9b0
      try clear c9b1
      obtain ⟨kq, x26_6, rfl, HA, HJ6, HB⟩ := hcut
      cases kq with
      | zero => exact absurd HA.out (by simp [glossatorlaw4_FuzzyScoreEqualsReference.j0])
      | succ kj6 =>
        have H := HA.out
        clear HA
        simp only [glossatorlaw4_FuzzyScoreEqualsReference.j0] at H
        have HC10 := Aside0.mk H
        clear H
        go_upto_if 26 with (fail)
        repeat (go_quiet (fail); go_upto_if 26 with (fail))
        go_cut [0, 1] (fun v0 v1 wc => ∃ (kq : Nat) (x0_9 : ByteArray) (x1_9 : ByteArray), v0 = .string x0_9 ∧ v1 = .string x1_9 ∧ Aside0 (glossatorlaw4_FuzzyScoreEqualsReference.j1 kq x0_9 x1_9 a2 a3 = some r) ∧ Aside0 (kq ≤ kj6) ∧ Aside0 (Below w.heap.size w wc))
        case first =>
          have H := HC10.out
          clear HC10
          by_cases c11 : x26_6 = true
          · subst c11
            have H1 : (if 0 ≤ (mn (a0.size : Int) 6) then (if (mn (a0.size : Int) 6) ≤ (a0.size : Int) then (if 0 ≤ (mn (a1.size : Int) 14) then (if (mn (a1.size : Int) 14) ≤ (a1.size : Int) then (glossatorlaw4_FuzzyScoreEqualsReference.j1 kj6 (a0.extract 0 ((mn (a0.size : Int) 6) : Int).toNat) (a1.extract 0 ((mn (a1.size : Int) 14) : Int).toNat) a2 a3) else (none)) else (none)) else (none)) else (none)) = some r := by rw [if_pos rfl] at H; exact H
            clear H
            have H := H1
            clear H1
            obtain ⟨ji12, hji12⟩ : ∃ j_ : Int, (mn (a0.size : Int) 6) = j_ := ⟨_, rfl⟩
            replace H : (if 0 ≤ (ji12) then (if (ji12) ≤ (a0.size : Int) then (if 0 ≤ (mn (a1.size : Int) 14) then (if (mn (a1.size : Int) 14) ≤ (a1.size : Int) then (glossatorlaw4_FuzzyScoreEqualsReference.j1 kj6 (a0.extract 0 ((ji12) : Int).toNat) (a1.extract 0 ((mn (a1.size : Int) 14) : Int).toNat) a2 a3) else (none)) else (none)) else (none)) else (none)) = some r := by first | (rw [hji12] at H; exact H) | (simp only [hji12] at H ⊢; exact H)
            have hji12_ : (if 6 < (a0.size : Int) then 6 else (a0.size : Int)) = ji12 := hji12
            by_cases c13 : 0 ≤ (ji12)
            · rw [if_pos c13] at H
              have c13b0 := eq_true c13
              have c13b1 : decide (0 ≤ (ji12)) = true := decide_eq_true c13
              clear c13
              by_cases c14 : (ji12) ≤ (a0.size : Int)
              · rw [if_pos c14] at H
                have c14b0 := eq_true c14
                have c14b1 : decide ((ji12) ≤ (a0.size : Int)) = true := decide_eq_true c14
                clear c14
                obtain ⟨ji15, hji15⟩ : ∃ j_ : Int, (mn (a1.size : Int) 14) = j_ := ⟨_, rfl⟩
                replace H : (if 0 ≤ (ji15) then (if (ji15) ≤ (a1.size : Int) then (glossatorlaw4_FuzzyScoreEqualsReference.j1 kj6 (a0.extract 0 ((ji12) : Int).toNat) (a1.extract 0 ((ji15) : Int).toNat) a2 a3) else (none)) else (none)) = some r := by first | (rw [hji15] at H; exact H) | (simp only [hji15] at H ⊢; exact H)
                have hji15_ : (if 14 < (a1.size : Int) then 14 else (a1.size : Int)) = ji15 := hji15
                by_cases c16 : 0 ≤ (ji15)
                · rw [if_pos c16] at H
                  have c16b0 := eq_true c16
                  have c16b1 : decide (0 ≤ (ji15)) = true := decide_eq_true c16
                  clear c16
                  by_cases c17 : (ji15) ≤ (a1.size : Int)
                  · rw [if_pos c17] at H
                    have c17b0 := eq_true c17
                    have c17b1 : decide ((ji15) ≤ (a1.size : Int)) = true := decide_eq_true c17
                    clear c17
                    have H' := Aside0.mk H
                    clear H
                    go_wp2
                    repeat (go_quiet (fail); try go_wp2)
                    go_meet
                    case rel => exact ⟨_, (a0.extract 0 ((ji12) : Int).toNat), (a1.extract 0 ((ji15) : Int).toNat), (by first | rfl | (simp; done) | (simp only [← hji12] <;> (first | rfl | simp)) | (simp [*]; done)), (by first | rfl | (simp; done) | (simp only [← hji15] <;> (first | rfl | simp)) | (simp [*]; done)), H', ⟨by have := HJ6.out; first | omega | exact Nat.le_refl _⟩, ⟨by repeat (first | (with_reducible first | exact HB.out | apply below_alloc | apply pw_below_drewN | apply below_drew1) | exact HB.out)⟩⟩
                  · rw [if_neg c17] at H
                    exact absurd H (by simp)
                · rw [if_neg c16] at H
                  exact absurd H (by simp)
              · rw [if_neg c14] at H
                exact absurd H (by simp)
            · rw [if_neg c13] at H
              exact absurd H (by simp)
          · replace c11 := Bool.eq_false_iff.mpr c11
            subst c11
            have H1 : (glossatorlaw4_FuzzyScoreEqualsReference.j1 kj6 a0 a1 a2 a3) = some r := by rw [if_neg (show ¬ (false = true) by decide)] at H; exact H
            clear H
            have H := H1
            clear H1
            have H' := Aside0.mk H
            clear H
            go_wp2
            repeat (go_quiet (fail); try go_wp2)
            go_meet
            case rel => exact ⟨_, (a0), (a1), (by first | rfl | (simp; done) | (simp [*]; done) | (simp [isEmpty_bne]; done)), (by first | rfl | (simp; done) | (simp [*]; done) | (simp [isEmpty_bne]; done)), H', ⟨by have := HJ6.out; first | omega | exact Nat.le_refl _⟩, ⟨by repeat (first | (with_reducible first | exact HB.out | apply below_alloc | apply pw_below_drewN | apply below_drew1) | exact HB.out)⟩⟩
        case rest =>
          clear HC10
          try clear c1
          try clear p2
          try clear c3
          try clear c6
          try clear c9
          try clear c9b0
          try clear c9b1
          try clear c11
          try clear c13
          try clear c13b0
          try clear c13b1
          try clear c14
          try clear c14b0
          try clear c14b1
          try clear c16
          try clear c16b0
          try clear c16b1
          try clear c17
          try clear c17b0
          try clear c17b1
          try clear p2
          obtain ⟨kq, x0_9, x1_9, rfl, rfl, HA, HJ9, HB⟩ := hcut
          cases kq with
          | zero => exact absurd HA.out (by simp [glossatorlaw4_FuzzyScoreEqualsReference.j1])
          | succ kj9 =>
            have H := HA.out
            clear HA
            simp only [glossatorlaw4_FuzzyScoreEqualsReference.j1] at H
            replace H := Option.bind_eq_some_iff.mp H
            obtain ⟨⟨t186, t187, t188⟩, A180, H⟩ := H
            replace H : ((glossatorref4_FuzzyScore.f kj9 x0_9 x1_9).bind fun bt191 => (if a2 ≥ 65 then (glossatorlaw4_FuzzyScoreEqualsReference.j2 kj9 a2 a3 t186 t187 t188 bt191.1 bt191.2.1 bt191.2.2 a2 a3 (decide (a2 ≤ 90))) else (glossatorlaw4_FuzzyScoreEqualsReference.j2 kj9 a2 a3 t186 t187 t188 bt191.1 bt191.2.1 bt191.2.2 a2 a3 false))) = some r := H
            have A18 := Aside0.mk A180
            clear A180
            replace H := Option.bind_eq_some_iff.mp H
            obtain ⟨⟨t191, t192, t195⟩, A190, H⟩ := H
            replace H : (if a2 ≥ 65 then (glossatorlaw4_FuzzyScoreEqualsReference.j2 kj9 a2 a3 t186 t187 t188 t191 t192 t195 a2 a3 (decide (a2 ≤ 90))) else (glossatorlaw4_FuzzyScoreEqualsReference.j2 kj9 a2 a3 t186 t187 t188 t191 t192 t195 a2 a3 false)) = some r := H
            have A19 := Aside0.mk A190
            clear A190
            have HC20 := Aside0.mk H
            clear H
            go_upto_region 8 with (first | (go_at_call 6; (with_reducible refine (fuzzy_Score.calls x0_9 x1_9 t186 t187 t188 _ A18.out).mono ?_); rintro e w21 ⟨v189, rfl, ho0, hb⟩; have n0_ := Aside0.mk (Kd.R_lower ho0 (below_size (by repeat (first | (with_reducible first | exact HB.out | apply below_alloc | apply pw_below_drewN | apply below_drew1) | exact HB.out)))); have n1_ := Aside0.mk (below_step (by repeat (first | (with_reducible first | exact HB.out | apply below_alloc | apply pw_below_drewN | apply below_drew1) | exact HB.out)) hb); clear HB; have HO190 := n0_; have HB := n1_; clear n0_ n1_; (try clear hb); (try clear hb2); (try clear hk); (try clear hi); (try clear ho0)) | (go_at_call 7; (with_reducible refine (glossatorref4_FuzzyScore.calls kj9 x0_9 x1_9 t191 t192 t195 _ A19.out).mono ?_); rintro e w22 ⟨v193, rfl, ho0, hb⟩; have n0_ := Aside0.mk (Kd.R_below (by (with_reducible repeat (first | apply Kd.R_alloc | apply Kd.R_drewN | apply Kd.R_drew)); exact HO190.out) hb); have n1_ := Aside0.mk (Kd.V_lower (Kd.V_mono (ok' := fun k_ => some k_ ≠ (v189 : Value).ownBlock) ho0 (fun k_ hk_ => (Kd.fresh' (Kd.R_lt (by (with_reducible repeat (first | apply Kd.R_alloc | apply Kd.R_drewN | apply Kd.R_drew)); exact HO190.out)) k_ hk_))) (below_size (by repeat (first | (with_reducible first | exact HB.out | apply below_alloc | apply pw_below_drewN | apply below_drew1) | exact HB.out)))); have n2_ := Aside0.mk (below_step (by repeat (first | (with_reducible first | exact HB.out | apply below_alloc | apply pw_below_drewN | apply below_drew1) | exact HB.out)) hb); clear HO190; clear HB; have HO190 := n0_; have HO194 := n1_; have HB := n2_; clear n0_ n1_ n2_; (try clear hb); (try clear hb2); (try clear hk); (try clear hi); (try clear ho0)))
            repeat (go_quiet (first | (go_at_call 6; (with_reducible refine (fuzzy_Score.calls x0_9 x1_9 t186 t187 t188 _ A18.out).mono ?_); rintro e w21 ⟨v189, rfl, ho0, hb⟩; have n0_ := Aside0.mk (Kd.R_lower ho0 (below_size (by repeat (first | (with_reducible first | exact HB.out | apply below_alloc | apply pw_below_drewN | apply below_drew1) | exact HB.out)))); have n1_ := Aside0.mk (below_step (by repeat (first | (with_reducible first | exact HB.out | apply below_alloc | apply pw_below_drewN | apply below_drew1) | exact HB.out)) hb); clear HB; have HO190 := n0_; have HB := n1_; clear n0_ n1_; (try clear hb); (try clear hb2); (try clear hk); (try clear hi); (try clear ho0)) | (go_at_call 7; (with_reducible refine (glossatorref4_FuzzyScore.calls kj9 x0_9 x1_9 t191 t192 t195 _ A19.out).mono ?_); rintro e w22 ⟨v193, rfl, ho0, hb⟩; have n0_ := Aside0.mk (Kd.R_below (by (with_reducible repeat (first | apply Kd.R_alloc | apply Kd.R_drewN | apply Kd.R_drew)); exact HO190.out) hb); have n1_ := Aside0.mk (Kd.V_lower (Kd.V_mono (ok' := fun k_ => some k_ ≠ (v189 : Value).ownBlock) ho0 (fun k_ hk_ => (Kd.fresh' (Kd.R_lt (by (with_reducible repeat (first | apply Kd.R_alloc | apply Kd.R_drewN | apply Kd.R_drew)); exact HO190.out)) k_ hk_))) (below_size (by repeat (first | (with_reducible first | exact HB.out | apply below_alloc | apply pw_below_drewN | apply below_drew1) | exact HB.out)))); have n2_ := Aside0.mk (below_step (by repeat (first | (with_reducible first | exact HB.out | apply below_alloc | apply pw_below_drewN | apply below_drew1) | exact HB.out)) hb); clear HO190; clear HB; have HO190 := n0_; have HO194 := n1_; have HB := n2_; clear n0_ n1_ n2_; (try clear hb); (try clear hb2); (try clear hk); (try clear hi); (try clear ho0))); go_upto_region 8 with (first | (go_at_call 6; (with_reducible refine (fuzzy_Score.calls x0_9 x1_9 t186 t187 t188 _ A18.out).mono ?_); rintro e w21 ⟨v189, rfl, ho0, hb⟩; have n0_ := Aside0.mk (Kd.R_lower ho0 (below_size (by repeat (first | (with_reducible first | exact HB.out | apply below_alloc | apply pw_below_drewN | apply below_drew1) | exact HB.out)))); have n1_ := Aside0.mk (below_step (by repeat (first | (with_reducible first | exact HB.out | apply below_alloc | apply pw_below_drewN | apply below_drew1) | exact HB.out)) hb); clear HB; have HO190 := n0_; have HB := n1_; clear n0_ n1_; (try clear hb); (try clear hb2); (try clear hk); (try clear hi); (try clear ho0)) | (go_at_call 7; (with_reducible refine (glossatorref4_FuzzyScore.calls kj9 x0_9 x1_9 t191 t192 t195 _ A19.out).mono ?_); rintro e w22 ⟨v193, rfl, ho0, hb⟩; have n0_ := Aside0.mk (Kd.R_below (by (with_reducible repeat (first | apply Kd.R_alloc | apply Kd.R_drewN | apply Kd.R_drew)); exact HO190.out) hb); have n1_ := Aside0.mk (Kd.V_lower (Kd.V_mono (ok' := fun k_ => some k_ ≠ (v189 : Value).ownBlock) ho0 (fun k_ hk_ => (Kd.fresh' (Kd.R_lt (by (with_reducible repeat (first | apply Kd.R_alloc | apply Kd.R_drewN | apply Kd.R_drew)); exact HO190.out)) k_ hk_))) (below_size (by repeat (first | (with_reducible first | exact HB.out | apply below_alloc | apply pw_below_drewN | apply below_drew1) | exact HB.out)))); have n2_ := Aside0.mk (below_step (by repeat (first | (with_reducible first | exact HB.out | apply below_alloc | apply pw_below_drewN | apply below_drew1) | exact HB.out)) hb); clear HO190; clear HB; have HO190 := n0_; have HO194 := n1_; have HB := n2_; clear n0_ n1_ n2_; (try clear hb); (try clear hb2); (try clear hk); (try clear hi); (try clear ho0))))
            (try simp only [Act.put, List.setIfInBounds_toArray, List.set_cons_zero, List.set_cons_succ])
            go_cut [58] (fun v58 wc => ∃ (kq : Nat) (x58_19 : Bool), v58 = .bool x58_19 ∧ Aside0 (glossatorlaw4_FuzzyScoreEqualsReference.j2 kq a2 a3 t186 t187 t188 t191 t192 t195 a2 a3 x58_19 = some r) ∧ Aside0 (kq ≤ kj9) ∧ Aside0 (Kd.R (Kd.int .i64) 3 wc w.heap.size (fun _ => True) v189 t187) ∧ Aside0 (Kd.V (Kd.int .i64) 3 wc w.heap.size (fun k_ => some k_ ≠ (v189 : Value).ownBlock) v193 t192) ∧ Aside0 (Below w.heap.size w wc))
            case first =>
              have H := HC20.out
              clear HC20
              by_cases c23 : a2 ≥ 65
              · rw [if_pos c23] at H
                have c23b0 : decide (65 ≤ a2) = true := decide_eq_true c23
                clear c23
                (first | rw [c23b1] | rw [c23b0] | (simp only [i64_w, i32_w]; rw [c23b0]) | skip)
                have H' := Aside0.mk H
                clear H
                go_wp2
                repeat (go_quiet (fail); try go_wp2)
                go_meet
                case rel => exact ⟨_, (decide (a2 ≤ 90)), (by first | rfl | (simp; done) | (simp [*]; done) | (simp [isEmpty_bne]; done)), H', ⟨by have := HJ6.out; have := HJ9.out; first | omega | exact Nat.le_refl _⟩, ⟨by (with_reducible repeat (first | apply Kd.R_alloc | apply Kd.R_drewN | apply Kd.R_drew)); exact HO190.out⟩, ⟨by (with_reducible repeat (first | apply Kd.V_alloc | apply Kd.V_drewN | apply Kd.V_drew)); exact HO194.out⟩, ⟨by repeat (first | (with_reducible first | exact HB.out | apply below_alloc | apply pw_below_drewN | apply below_drew1) | exact HB.out)⟩⟩
              · rw [if_neg c23] at H
                have c23b0 : decide (65 ≤ a2) = false := decide_eq_false c23
                clear c23
                (first | rw [c23b1] | rw [c23b0] | (simp only [i64_w, i32_w]; rw [c23b0]) | skip)
                have H' := Aside0.mk H
                clear H
                go_wp2
                repeat (go_quiet (fail); try go_wp2)
                go_meet
                case rel => exact ⟨_, (false), (by first | rfl | (simp; done) | (simp [*]; done) | (simp [isEmpty_bne]; done)), H', ⟨by have := HJ6.out; have := HJ9.out; first | omega | exact Nat.le_refl _⟩, ⟨by (with_reducible repeat (first | apply Kd.R_alloc | apply Kd.R_drewN | apply Kd.R_drew)); exact HO190.out⟩, ⟨by (with_reducible repeat (first | apply Kd.V_alloc | apply Kd.V_drewN | apply Kd.V_drew)); exact HO194.out⟩, ⟨by repeat (first | (with_reducible first | exact HB.out | apply below_alloc | apply pw_below_drewN | apply below_drew1) | exact HB.out)⟩⟩
            case rest =>
              clear HC20
              try clear c1
              try clear c2
              try clear p2
              try clear c3
              try clear c6
              try clear c9
              try clear c9b0
              try clear c9b1
              try clear c11
              try clear c13
              try clear c13b0
              try clear c13b1
              try clear c14
              try clear c14b0
              try clear c14b1
              try clear c16
              try clear c16b0
              try clear c16b1
              try clear c17
              try clear c17b0
              try clear c17b1
              try clear c23
              try clear c23b0
              try clear p2
              obtain ⟨kq, x58_19, rfl, HA, HJ19, HO_10, HO_13, HB⟩ := hcut
              cases kq with
              | zero => exact absurd HA.out (by simp [glossatorlaw4_FuzzyScoreEqualsReference.j2])
              | succ kj19 =>
                have H := HA.out
                clear HA
                simp only [glossatorlaw4_FuzzyScoreEqualsReference.j2] at H
                have HC24 := Aside0.mk H
                clear H
                go_upto_if 58 with (fail)
                repeat (go_quiet (fail); go_upto_if 58 with (fail))
                go_cut [15] (fun v15 wc => ∃ (kq : Nat) (x15_23 : Int), v15 = .int .u8 x15_23 ∧ Aside0 (glossatorlaw4_FuzzyScoreEqualsReference.j3 kq a2 a3 t186 t187 t188 t191 t192 t195 x15_23 a3 = some r) ∧ Aside0 (kq ≤ kj19) ∧ Aside0 (Kd.R (Kd.int .i64) 3 wc w.heap.size (fun _ => True) v189 t187) ∧ Aside0 (Kd.V (Kd.int .i64) 3 wc w.heap.size (fun k_ => some k_ ≠ (v189 : Value).ownBlock) v193 t192) ∧ Aside0 (Below w.heap.size w wc))
                case first =>
                  have H := HC24.out
                  clear HC24
                  by_cases c25 : x58_19 = true
                  · subst c25
                    have H1 : (glossatorlaw4_FuzzyScoreEqualsReference.j3 kj19 a2 a3 t186 t187 t188 t191 t192 t195 ((a2 + 32) % 256) a3) = some r := by rw [if_pos rfl] at H; exact H
                    clear H
                    have H := H1
                    clear H1
                    have H' := Aside0.mk H
                    clear H
                    go_wp2
                    repeat (go_quiet (fail); try go_wp2)
                    go_meet
                    case rel => exact ⟨_, ((a2 + 32) % 256), (by first | rfl | (simp; done) | (simp [*]; done) | (simp [isEmpty_bne]; done)), H', ⟨by have := HJ6.out; have := HJ9.out; have := HJ19.out; first | omega | exact Nat.le_refl _⟩, ⟨by (with_reducible repeat (first | apply Kd.R_alloc | apply Kd.R_drewN | apply Kd.R_drew)); exact HO_10.out⟩, ⟨by (with_reducible repeat (first | apply Kd.V_alloc | apply Kd.V_drewN | apply Kd.V_drew)); exact HO_13.out⟩, ⟨by repeat (first | (with_reducible first | exact HB.out | apply below_alloc | apply pw_below_drewN | apply below_drew1) | exact HB.out)⟩⟩
                  · replace c25 := Bool.eq_false_iff.mpr c25
                    subst c25
                    have H1 : (glossatorlaw4_FuzzyScoreEqualsReference.j3 kj19 a2 a3 t186 t187 t188 t191 t192 t195 a2 a3) = some r := by rw [if_neg (show ¬ (false = true) by decide)] at H; exact H
                    clear H
                    have H := H1
                    clear H1
                    have H' := Aside0.mk H
                    clear H
                    go_wp2
                    repeat (go_quiet (fail); try go_wp2)
                    go_meet
                    case rel => exact ⟨_, (a2), (by first | rfl | (simp; done) | (simp [*]; done) | (simp [isEmpty_bne]; done)), H', ⟨by have := HJ6.out; have := HJ9.out; have := HJ19.out; first | omega | exact Nat.le_refl _⟩, ⟨by (with_reducible repeat (first | apply Kd.R_alloc | apply Kd.R_drewN | apply Kd.R_drew)); exact HO_10.out⟩, ⟨by (with_reducible repeat (first | apply Kd.V_alloc | apply Kd.V_drewN | apply Kd.V_drew)); exact HO_13.out⟩, ⟨by repeat (first | (with_reducible first | exact HB.out | apply below_alloc | apply pw_below_drewN | apply below_drew1) | exact HB.out)⟩⟩
                case rest =>
                  clear HC24
                  try clear c1
                  try clear c2
                  try clear p2
                  try clear c3
                  try clear c6
                  try clear c9
                  try clear c9b0
                  try clear c9b1
                  try clear c11
                  try clear c13
                  try clear c13b0
                  try clear c13b1
                  try clear c14
                  try clear c14b0
                  try clear c14b1
                  try clear c16
                  try clear c16b0
                  try clear c16b1
                  try clear c17
                  try clear c17b0
                  try clear c17b1
                  try clear c23
                  try clear c23b0
                  try clear c25
                  try clear p2
                  obtain ⟨kq, x15_23, rfl, HA, HJ23, HO_10, HO_13, HB⟩ := hcut
                  cases kq with
                  | zero => exact absurd HA.out (by simp [glossatorlaw4_FuzzyScoreEqualsReference.j3])
                  | succ kj23 =>
                    have H := HA.out
                    clear HA
                    simp only [glossatorlaw4_FuzzyScoreEqualsReference.j3] at H
                    have HC26 := Aside0.mk H
                    clear H
                    go_upto_region 10 with (fail)
                    repeat (go_quiet (fail); go_upto_region 10 with (fail))
                    go_cut [66] (fun v66 wc => ∃ (kq : Nat) (x66_25 : Bool), v66 = .bool x66_25 ∧ Aside0 (glossatorlaw4_FuzzyScoreEqualsReference.j4 kq a2 a3 t186 t187 t188 t191 t192 t195 x15_23 a3 x66_25 = some r) ∧ Aside0 (kq ≤ kj23) ∧ Aside0 (Kd.R (Kd.int .i64) 3 wc w.heap.size (fun _ => True) v189 t187) ∧ Aside0 (Kd.V (Kd.int .i64) 3 wc w.heap.size (fun k_ => some k_ ≠ (v189 : Value).ownBlock) v193 t192) ∧ Aside0 (Below w.heap.size w wc))
                    case first =>
                      have H := HC26.out
                      clear HC26
                      by_cases c27 : a3 ≥ 65
                      · rw [if_pos c27] at H
                        have c27b0 : decide (65 ≤ a3) = true := decide_eq_true c27
                        clear c27
                        (first | rw [c27b1] | rw [c27b0] | (simp only [i64_w, i32_w]; rw [c27b0]) | skip)
                        have H' := Aside0.mk H
                        clear H
                        go_wp2
                        repeat (go_quiet (fail); try go_wp2)
                        go_meet
                        case rel => exact ⟨_, (decide (a3 ≤ 90)), (by first | rfl | (simp; done) | (simp [*]; done) | (simp [isEmpty_bne]; done)), H', ⟨by have := HJ6.out; have := HJ9.out; have := HJ19.out; have := HJ23.out; first | omega | exact Nat.le_refl _⟩, ⟨by (with_reducible repeat (first | apply Kd.R_alloc | apply Kd.R_drewN | apply Kd.R_drew)); exact HO_10.out⟩, ⟨by (with_reducible repeat (first | apply Kd.V_alloc | apply Kd.V_drewN | apply Kd.V_drew)); exact HO_13.out⟩, ⟨by repeat (first | (with_reducible first | exact HB.out | apply below_alloc | apply pw_below_drewN | apply below_drew1) | exact HB.out)⟩⟩
                      · rw [if_neg c27] at H
                        have c27b0 : decide (65 ≤ a3) = false := decide_eq_false c27
                        clear c27
                        (first | rw [c27b1] | rw [c27b0] | (simp only [i64_w, i32_w]; rw [c27b0]) | skip)
                        have H' := Aside0.mk H
                        clear H
                        go_wp2
                        repeat (go_quiet (fail); try go_wp2)
                        go_meet
                        case rel => exact ⟨_, (false), (by first | rfl | (simp; done) | (simp [*]; done) | (simp [isEmpty_bne]; done)), H', ⟨by have := HJ6.out; have := HJ9.out; have := HJ19.out; have := HJ23.out; first | omega | exact Nat.le_refl _⟩, ⟨by (with_reducible repeat (first | apply Kd.R_alloc | apply Kd.R_drewN | apply Kd.R_drew)); exact HO_10.out⟩, ⟨by (with_reducible repeat (first | apply Kd.V_alloc | apply Kd.V_drewN | apply Kd.V_drew)); exact HO_13.out⟩, ⟨by repeat (first | (with_reducible first | exact HB.out | apply below_alloc | apply pw_below_drewN | apply below_drew1) | exact HB.out)⟩⟩
                    case rest =>
                      clear HC26
                      try clear c1
                      try clear c2
                      try clear p2
                      try clear c3
                      try clear c6
                      try clear c9
                      try clear c9b0
                      try clear c9b1
                      try clear c11
                      try clear c13
                      try clear c13b0
                      try clear c13b1
                      try clear c14
                      try clear c14b0
                      try clear c14b1
                      try clear c16
                      try clear c16b0
                      try clear c16b1
                      try clear c17
                      try clear c17b0
                      try clear c17b1
                      try clear c23
                      try clear c23b0
                      try clear c25
                      try clear c27
                      try clear c27b0
                      try clear p2
                      obtain ⟨kq, x66_25, rfl, HA, HJ25, HO_10, HO_13, HB⟩ := hcut
                      cases kq with
                      | zero => exact absurd HA.out (by simp [glossatorlaw4_FuzzyScoreEqualsReference.j4])
                      | succ kj25 =>
                        have H := HA.out
                        clear HA
                        simp only [glossatorlaw4_FuzzyScoreEqualsReference.j4] at H
                        by_cases c28 : x66_25 = true
                        · subst c28
                          have H1 : (if t186 = t191 then ((glossatorref4_EqualInts.f kj25 t187 t192).bind fun t196 => (if t196 = true then (if (t188 == t195) = true then ((fuzzy_EqualFold.f a2 a3).bind fun t197 => (some (t197 == (x15_23 == ((a3 + 32) % 256))))) else (some false)) else (some false))) else (some false)) = some r := by rw [if_pos rfl] at H; exact H
                          clear H
                          have H := H1
                          clear H1
                          by_cases c29 : t186 = t191
                          · rw [if_pos c29] at H
                            have c29b0 : (t186 == t191) = true := beq_iff_eq.mpr c29
                            have c29b1 : (t186 != t191) = false := bne_eq_false_iff_eq.mpr c29
                            clear c29
                            replace H := Option.bind_eq_some_iff.mp H
                            obtain ⟨t196, A300, H⟩ := H
                            replace H : (if t196 = true then (if (t188 == t195) = true then ((fuzzy_EqualFold.f a2 a3).bind fun t197 => (some (t197 == (x15_23 == ((a3 + 32) % 256))))) else (some false)) else (some false)) = some r := H
                            have A30 := Aside0.mk A300
                            clear A300
                            by_cases c31 : t196 = true
                            · subst c31
                              have H1 : (if (t188 == t195) = true then ((fuzzy_EqualFold.f a2 a3).bind fun t197 => (some (t197 == (x15_23 == ((a3 + 32) % 256))))) else (some false)) = some r := by rw [if_pos rfl] at H; exact H
                              clear H
                              have H := H1
                              clear H1
                              by_cases c32 : (t188 == t195) = true
                              · rw [if_pos c32] at H
                                have c32b0 : (t188 == t195) = true := c32
                                (try (have c32b1 : decide (t188 = t195) = true := by simpa using c32))
                                (try (have c32b2 : (t188 == t195) = true := by simpa using c32))
                                clear c32
                                replace H := Option.bind_eq_some_iff.mp H
                                obtain ⟨t197, A330, H⟩ := H
                                replace H : (some (t197 == (x15_23 == ((a3 + 32) % 256)))) = some r := H
                                have A33 := Aside0.mk A330
                                clear A330
                                obtain rfl := Option.some.inj H
                                obtain ⟨Ao34, co34, eo34⟩ := Kd.R_slice HO_10.out
                                subst eo34
                                obtain ⟨Ao35, co35, eo35⟩ := Kd.V_slice HO_13.out
                                subst eo35
                                go_wp2_with (first | (go_at_call 8; (with_reducible refine (glossatorref4_EqualInts.calls kj25 _ _ t187 _ _ t192 true _ ?side1 ?side2 ?side3 ?side4 A30.out).mono ?_); (case side1 => repeat (first | exact (Kd.R_reads' HO_10.out).2.2 | (with_reducible refine Kd.C_alloc ?_ _) | (with_reducible refine Kd.C_drewN ?_ _) | (with_reducible refine Kd.C_drew ?_))); (case side2 => exact (Kd.R_reads' HO_10.out).2.1); (case side3 => repeat (first | exact (Kd.V_reads' HO_13.out).2.2 | (with_reducible refine Kd.C_alloc ?_ _) | (with_reducible refine Kd.C_drewN ?_ _) | (with_reducible refine Kd.C_drew ?_))); (case side4 => exact (Kd.V_reads' HO_13.out).2.1); rintro e w' ⟨rfl, ⟨nd, rfl⟩⟩; (try first | exact ⟨rfl, _, World.drewN_drewN _ _ _⟩ | exact ⟨rfl, _, Eq.trans (World.drewN_drewN _ _ _) (congrArg (World.drewN _) (Nat.add_assoc _ _ _))⟩)) | (go_at_call 9; (with_reducible refine (fuzzy_EqualFold.calls a2 a3 t197 _ A33.out).mono ?_); rintro e w' ⟨rfl, ⟨nd, rfl⟩⟩; (try first | exact ⟨rfl, _, World.drewN_drewN _ _ _⟩ | exact ⟨rfl, _, Eq.trans (World.drewN_drewN _ _ _) (congrArg (World.drewN _) (Nat.add_assoc _ _ _))⟩)))
                                repeat (go_quiet (first | (go_at_call 8; (with_reducible refine (glossatorref4_EqualInts.calls kj25 _ _ t187 _ _ t192 true _ ?side1 ?side2 ?side3 ?side4 A30.out).mono ?_); (case side1 => repeat (first | exact (Kd.R_reads' HO_10.out).2.2 | (with_reducible refine Kd.C_alloc ?_ _) | (with_reducible refine Kd.C_drewN ?_ _) | (with_reducible refine Kd.C_drew ?_))); (case side2 => exact (Kd.R_reads' HO_10.out).2.1); (case side3 => repeat (first | exact (Kd.V_reads' HO_13.out).2.2 | (with_reducible refine Kd.C_alloc ?_ _) | (with_reducible refine Kd.C_drewN ?_ _) | (with_reducible refine Kd.C_drew ?_))); (case side4 => exact (Kd.V_reads' HO_13.out).2.1); rintro e w' ⟨rfl, ⟨nd, rfl⟩⟩; (try first | exact ⟨rfl, _, World.drewN_drewN _ _ _⟩ | exact ⟨rfl, _, Eq.trans (World.drewN_drewN _ _ _) (congrArg (World.drewN _) (Nat.add_assoc _ _ _))⟩)) | (go_at_call 9; (with_reducible refine (fuzzy_EqualFold.calls a2 a3 t197 _ A33.out).mono ?_); rintro e w' ⟨rfl, ⟨nd, rfl⟩⟩; (try first | exact ⟨rfl, _, World.drewN_drewN _ _ _⟩ | exact ⟨rfl, _, Eq.trans (World.drewN_drewN _ _ _) (congrArg (World.drewN _) (Nat.add_assoc _ _ _))⟩))); try go_wp2_with (first | (go_at_call 8; (with_reducible refine (glossatorref4_EqualInts.calls kj25 _ _ t187 _ _ t192 true _ ?side1 ?side2 ?side3 ?side4 A30.out).mono ?_); (case side1 => repeat (first | exact (Kd.R_reads' HO_10.out).2.2 | (with_reducible refine Kd.C_alloc ?_ _) | (with_reducible refine Kd.C_drewN ?_ _) | (with_reducible refine Kd.C_drew ?_))); (case side2 => exact (Kd.R_reads' HO_10.out).2.1); (case side3 => repeat (first | exact (Kd.V_reads' HO_13.out).2.2 | (with_reducible refine Kd.C_alloc ?_ _) | (with_reducible refine Kd.C_drewN ?_ _) | (with_reducible refine Kd.C_drew ?_))); (case side4 => exact (Kd.V_reads' HO_13.out).2.1); rintro e w' ⟨rfl, ⟨nd, rfl⟩⟩; (try first | exact ⟨rfl, _, World.drewN_drewN _ _ _⟩ | exact ⟨rfl, _, Eq.trans (World.drewN_drewN _ _ _) (congrArg (World.drewN _) (Nat.add_assoc _ _ _))⟩)) | (go_at_call 9; (with_reducible refine (fuzzy_EqualFold.calls a2 a3 t197 _ A33.out).mono ?_); rintro e w' ⟨rfl, ⟨nd, rfl⟩⟩; (try first | exact ⟨rfl, _, World.drewN_drewN _ _ _⟩ | exact ⟨rfl, _, Eq.trans (World.drewN_drewN _ _ _) (congrArg (World.drewN _) (Nat.add_assoc _ _ _))⟩))))
                                go_ret
                                exact ⟨by first | rfl | (simp [errW_none, errW_some] <;> rfl) | (simp [*, errW_none, errW_some] <;> rfl), by repeat (first | (with_reducible first | exact HB.out | apply below_alloc | apply pw_below_drewN | apply below_drew1) | exact HB.out)⟩
                              · rw [if_neg c32] at H
                                have c32b0 : (t188 == t195) = false := by simpa using c32
                                (try (have c32b1 : decide (t188 = t195) = false := by simpa using c32))
                                (try (have c32b2 : (t188 == t195) = false := by simpa using c32))
                                (try (have c32b3 : ¬ (t188 = t195) := by simpa using c32))
                                clear c32
                                obtain rfl := Option.some.inj H
                                obtain ⟨Ao36, co36, eo36⟩ := Kd.R_slice HO_10.out
                                subst eo36
                                obtain ⟨Ao37, co37, eo37⟩ := Kd.V_slice HO_13.out
                                subst eo37
                                go_wp2_with (first | (go_at_call 8; (with_reducible refine (glossatorref4_EqualInts.calls kj25 _ _ t187 _ _ t192 true _ ?side1 ?side2 ?side3 ?side4 A30.out).mono ?_); (case side1 => repeat (first | exact (Kd.R_reads' HO_10.out).2.2 | (with_reducible refine Kd.C_alloc ?_ _) | (with_reducible refine Kd.C_drewN ?_ _) | (with_reducible refine Kd.C_drew ?_))); (case side2 => exact (Kd.R_reads' HO_10.out).2.1); (case side3 => repeat (first | exact (Kd.V_reads' HO_13.out).2.2 | (with_reducible refine Kd.C_alloc ?_ _) | (with_reducible refine Kd.C_drewN ?_ _) | (with_reducible refine Kd.C_drew ?_))); (case side4 => exact (Kd.V_reads' HO_13.out).2.1); rintro e w' ⟨rfl, ⟨nd, rfl⟩⟩; (try first | exact ⟨rfl, _, World.drewN_drewN _ _ _⟩ | exact ⟨rfl, _, Eq.trans (World.drewN_drewN _ _ _) (congrArg (World.drewN _) (Nat.add_assoc _ _ _))⟩)))
                                repeat (go_quiet (first | (go_at_call 8; (with_reducible refine (glossatorref4_EqualInts.calls kj25 _ _ t187 _ _ t192 true _ ?side1 ?side2 ?side3 ?side4 A30.out).mono ?_); (case side1 => repeat (first | exact (Kd.R_reads' HO_10.out).2.2 | (with_reducible refine Kd.C_alloc ?_ _) | (with_reducible refine Kd.C_drewN ?_ _) | (with_reducible refine Kd.C_drew ?_))); (case side2 => exact (Kd.R_reads' HO_10.out).2.1); (case side3 => repeat (first | exact (Kd.V_reads' HO_13.out).2.2 | (with_reducible refine Kd.C_alloc ?_ _) | (with_reducible refine Kd.C_drewN ?_ _) | (with_reducible refine Kd.C_drew ?_))); (case side4 => exact (Kd.V_reads' HO_13.out).2.1); rintro e w' ⟨rfl, ⟨nd, rfl⟩⟩; (try first | exact ⟨rfl, _, World.drewN_drewN _ _ _⟩ | exact ⟨rfl, _, Eq.trans (World.drewN_drewN _ _ _) (congrArg (World.drewN _) (Nat.add_assoc _ _ _))⟩))); try go_wp2_with (first | (go_at_call 8; (with_reducible refine (glossatorref4_EqualInts.calls kj25 _ _ t187 _ _ t192 true _ ?side1 ?side2 ?side3 ?side4 A30.out).mono ?_); (case side1 => repeat (first | exact (Kd.R_reads' HO_10.out).2.2 | (with_reducible refine Kd.C_alloc ?_ _) | (with_reducible refine Kd.C_drewN ?_ _) | (with_reducible refine Kd.C_drew ?_))); (case side2 => exact (Kd.R_reads' HO_10.out).2.1); (case side3 => repeat (first | exact (Kd.V_reads' HO_13.out).2.2 | (with_reducible refine Kd.C_alloc ?_ _) | (with_reducible refine Kd.C_drewN ?_ _) | (with_reducible refine Kd.C_drew ?_))); (case side4 => exact (Kd.V_reads' HO_13.out).2.1); rintro e w' ⟨rfl, ⟨nd, rfl⟩⟩; (try first | exact ⟨rfl, _, World.drewN_drewN _ _ _⟩ | exact ⟨rfl, _, Eq.trans (World.drewN_drewN _ _ _) (congrArg (World.drewN _) (Nat.add_assoc _ _ _))⟩))))
                                go_ret
                                exact ⟨by first | rfl | (simp [errW_none, errW_some] <;> rfl) | (simp [*, errW_none, errW_some] <;> rfl), by repeat (first | (with_reducible first | exact HB.out | apply below_alloc | apply pw_below_drewN | apply below_drew1) | exact HB.out)⟩
                            · replace c31 := Bool.eq_false_iff.mpr c31
                              subst c31
                              have H1 : (some false) = some r := by rw [if_neg (show ¬ (false = true) by decide)] at H; exact H
                              clear H
                              have H := H1
                              clear H1
                              obtain rfl := Option.some.inj H
                              obtain ⟨Ao38, co38, eo38⟩ := Kd.R_slice HO_10.out
                              subst eo38
                              obtain ⟨Ao39, co39, eo39⟩ := Kd.V_slice HO_13.out
                              subst eo39
                              go_wp2_with (first | (go_at_call 8; (with_reducible refine (glossatorref4_EqualInts.calls kj25 _ _ t187 _ _ t192 false _ ?side1 ?side2 ?side3 ?side4 A30.out).mono ?_); (case side1 => repeat (first | exact (Kd.R_reads' HO_10.out).2.2 | (with_reducible refine Kd.C_alloc ?_ _) | (with_reducible refine Kd.C_drewN ?_ _) | (with_reducible refine Kd.C_drew ?_))); (case side2 => exact (Kd.R_reads' HO_10.out).2.1); (case side3 => repeat (first | exact (Kd.V_reads' HO_13.out).2.2 | (with_reducible refine Kd.C_alloc ?_ _) | (with_reducible refine Kd.C_drewN ?_ _) | (with_reducible refine Kd.C_drew ?_))); (case side4 => exact (Kd.V_reads' HO_13.out).2.1); rintro e w' ⟨rfl, ⟨nd, rfl⟩⟩; (try first | exact ⟨rfl, _, World.drewN_drewN _ _ _⟩ | exact ⟨rfl, _, Eq.trans (World.drewN_drewN _ _ _) (congrArg (World.drewN _) (Nat.add_assoc _ _ _))⟩)))
                              repeat (go_quiet (first | (go_at_call 8; (with_reducible refine (glossatorref4_EqualInts.calls kj25 _ _ t187 _ _ t192 false _ ?side1 ?side2 ?side3 ?side4 A30.out).mono ?_); (case side1 => repeat (first | exact (Kd.R_reads' HO_10.out).2.2 | (with_reducible refine Kd.C_alloc ?_ _) | (with_reducible refine Kd.C_drewN ?_ _) | (with_reducible refine Kd.C_drew ?_))); (case side2 => exact (Kd.R_reads' HO_10.out).2.1); (case side3 => repeat (first | exact (Kd.V_reads' HO_13.out).2.2 | (with_reducible refine Kd.C_alloc ?_ _) | (with_reducible refine Kd.C_drewN ?_ _) | (with_reducible refine Kd.C_drew ?_))); (case side4 => exact (Kd.V_reads' HO_13.out).2.1); rintro e w' ⟨rfl, ⟨nd, rfl⟩⟩; (try first | exact ⟨rfl, _, World.drewN_drewN _ _ _⟩ | exact ⟨rfl, _, Eq.trans (World.drewN_drewN _ _ _) (congrArg (World.drewN _) (Nat.add_assoc _ _ _))⟩))); try go_wp2_with (first | (go_at_call 8; (with_reducible refine (glossatorref4_EqualInts.calls kj25 _ _ t187 _ _ t192 false _ ?side1 ?side2 ?side3 ?side4 A30.out).mono ?_); (case side1 => repeat (first | exact (Kd.R_reads' HO_10.out).2.2 | (with_reducible refine Kd.C_alloc ?_ _) | (with_reducible refine Kd.C_drewN ?_ _) | (with_reducible refine Kd.C_drew ?_))); (case side2 => exact (Kd.R_reads' HO_10.out).2.1); (case side3 => repeat (first | exact (Kd.V_reads' HO_13.out).2.2 | (with_reducible refine Kd.C_alloc ?_ _) | (with_reducible refine Kd.C_drewN ?_ _) | (with_reducible refine Kd.C_drew ?_))); (case side4 => exact (Kd.V_reads' HO_13.out).2.1); rintro e w' ⟨rfl, ⟨nd, rfl⟩⟩; (try first | exact ⟨rfl, _, World.drewN_drewN _ _ _⟩ | exact ⟨rfl, _, Eq.trans (World.drewN_drewN _ _ _) (congrArg (World.drewN _) (Nat.add_assoc _ _ _))⟩))))
                              go_ret
                              exact ⟨by first | rfl | (simp [errW_none, errW_some] <;> rfl) | (simp [*, errW_none, errW_some] <;> rfl), by repeat (first | (with_reducible first | exact HB.out | apply below_alloc | apply pw_below_drewN | apply below_drew1) | exact HB.out)⟩
                          · rw [if_neg c29] at H
                            have c29b0 : (t186 == t191) = false := beq_eq_false_iff_ne.mpr c29
                            have c29b1 : (t186 != t191) = true := bne_iff_ne.mpr c29
                            obtain rfl := Option.some.inj H
                            go_wp2
                            repeat (go_quiet (fail); try go_wp2)
                            go_ret
                            exact ⟨by first | rfl | (simp [errW_none, errW_some] <;> rfl) | (simp [*, errW_none, errW_some] <;> rfl), by repeat (first | (with_reducible first | exact HB.out | apply below_alloc | apply pw_below_drewN | apply below_drew1) | exact HB.out)⟩
                        · replace c28 := Bool.eq_false_iff.mpr c28
                          subst c28
                          have H1 : (if t186 = t191 then ((glossatorref4_EqualInts.f kj25 t187 t192).bind fun t198 => (if t198 = true then (if (t188 == t195) = true then ((fuzzy_EqualFold.f a2 a3).bind fun t199 => (some (t199 == (x15_23 == a3)))) else (some false)) else (some false))) else (some false)) = some r := by rw [if_neg (show ¬ (false = true) by decide)] at H; exact H
                          clear H
                          have H := H1
                          clear H1
                          by_cases c40 : t186 = t191
                          · rw [if_pos c40] at H
                            have c40b0 : (t186 == t191) = true := beq_iff_eq.mpr c40
                            have c40b1 : (t186 != t191) = false := bne_eq_false_iff_eq.mpr c40
                            clear c40
                            replace H := Option.bind_eq_some_iff.mp H
                            obtain ⟨t198, A410, H⟩ := H
                            replace H : (if t198 = true then (if (t188 == t195) = true then ((fuzzy_EqualFold.f a2 a3).bind fun t199 => (some (t199 == (x15_23 == a3)))) else (some false)) else (some false)) = some r := H
                            have A41 := Aside0.mk A410
                            clear A410
                            by_cases c42 : t198 = true
                            · subst c42
                              have H1 : (if (t188 == t195) = true then ((fuzzy_EqualFold.f a2 a3).bind fun t199 => (some (t199 == (x15_23 == a3)))) else (some false)) = some r := by rw [if_pos rfl] at H; exact H
                              clear H
                              have H := H1
                              clear H1
                              by_cases c43 : (t188 == t195) = true
                              · rw [if_pos c43] at H
                                have c43b0 : (t188 == t195) = true := c43
                                (try (have c43b1 : decide (t188 = t195) = true := by simpa using c43))
                                (try (have c43b2 : (t188 == t195) = true := by simpa using c43))
                                clear c43
                                replace H := Option.bind_eq_some_iff.mp H
                                obtain ⟨t199, A440, H⟩ := H
                                replace H : (some (t199 == (x15_23 == a3))) = some r := H
                                have A44 := Aside0.mk A440
                                clear A440
                                obtain rfl := Option.some.inj H
                                obtain ⟨Ao45, co45, eo45⟩ := Kd.R_slice HO_10.out
                                subst eo45
                                obtain ⟨Ao46, co46, eo46⟩ := Kd.V_slice HO_13.out
                                subst eo46
                                go_wp2_with (first | (go_at_call 8; (with_reducible refine (glossatorref4_EqualInts.calls kj25 _ _ t187 _ _ t192 true _ ?side1 ?side2 ?side3 ?side4 A41.out).mono ?_); (case side1 => repeat (first | exact (Kd.R_reads' HO_10.out).2.2 | (with_reducible refine Kd.C_alloc ?_ _) | (with_reducible refine Kd.C_drewN ?_ _) | (with_reducible refine Kd.C_drew ?_))); (case side2 => exact (Kd.R_reads' HO_10.out).2.1); (case side3 => repeat (first | exact (Kd.V_reads' HO_13.out).2.2 | (with_reducible refine Kd.C_alloc ?_ _) | (with_reducible refine Kd.C_drewN ?_ _) | (with_reducible refine Kd.C_drew ?_))); (case side4 => exact (Kd.V_reads' HO_13.out).2.1); rintro e w' ⟨rfl, ⟨nd, rfl⟩⟩; (try first | exact ⟨rfl, _, World.drewN_drewN _ _ _⟩ | exact ⟨rfl, _, Eq.trans (World.drewN_drewN _ _ _) (congrArg (World.drewN _) (Nat.add_assoc _ _ _))⟩)) | (go_at_call 9; (with_reducible refine (fuzzy_EqualFold.calls a2 a3 t199 _ A44.out).mono ?_); rintro e w' ⟨rfl, ⟨nd, rfl⟩⟩; (try first | exact ⟨rfl, _, World.drewN_drewN _ _ _⟩ | exact ⟨rfl, _, Eq.trans (World.drewN_drewN _ _ _) (congrArg (World.drewN _) (Nat.add_assoc _ _ _))⟩)))
                                repeat (go_quiet (first | (go_at_call 8; (with_reducible refine (glossatorref4_EqualInts.calls kj25 _ _ t187 _ _ t192 true _ ?side1 ?side2 ?side3 ?side4 A41.out).mono ?_); (case side1 => repeat (first | exact (Kd.R_reads' HO_10.out).2.2 | (with_reducible refine Kd.C_alloc ?_ _) | (with_reducible refine Kd.C_drewN ?_ _) | (with_reducible refine Kd.C_drew ?_))); (case side2 => exact (Kd.R_reads' HO_10.out).2.1); (case side3 => repeat (first | exact (Kd.V_reads' HO_13.out).2.2 | (with_reducible refine Kd.C_alloc ?_ _) | (with_reducible refine Kd.C_drewN ?_ _) | (with_reducible refine Kd.C_drew ?_))); (case side4 => exact (Kd.V_reads' HO_13.out).2.1); rintro e w' ⟨rfl, ⟨nd, rfl⟩⟩; (try first | exact ⟨rfl, _, World.drewN_drewN _ _ _⟩ | exact ⟨rfl, _, Eq.trans (World.drewN_drewN _ _ _) (congrArg (World.drewN _) (Nat.add_assoc _ _ _))⟩)) | (go_at_call 9; (with_reducible refine (fuzzy_EqualFold.calls a2 a3 t199 _ A44.out).mono ?_); rintro e w' ⟨rfl, ⟨nd, rfl⟩⟩; (try first | exact ⟨rfl, _, World.drewN_drewN _ _ _⟩ | exact ⟨rfl, _, Eq.trans (World.drewN_drewN _ _ _) (congrArg (World.drewN _) (Nat.add_assoc _ _ _))⟩))); try go_wp2_with (first | (go_at_call 8; (with_reducible refine (glossatorref4_EqualInts.calls kj25 _ _ t187 _ _ t192 true _ ?side1 ?side2 ?side3 ?side4 A41.out).mono ?_); (case side1 => repeat (first | exact (Kd.R_reads' HO_10.out).2.2 | (with_reducible refine Kd.C_alloc ?_ _) | (with_reducible refine Kd.C_drewN ?_ _) | (with_reducible refine Kd.C_drew ?_))); (case side2 => exact (Kd.R_reads' HO_10.out).2.1); (case side3 => repeat (first | exact (Kd.V_reads' HO_13.out).2.2 | (with_reducible refine Kd.C_alloc ?_ _) | (with_reducible refine Kd.C_drewN ?_ _) | (with_reducible refine Kd.C_drew ?_))); (case side4 => exact (Kd.V_reads' HO_13.out).2.1); rintro e w' ⟨rfl, ⟨nd, rfl⟩⟩; (try first | exact ⟨rfl, _, World.drewN_drewN _ _ _⟩ | exact ⟨rfl, _, Eq.trans (World.drewN_drewN _ _ _) (congrArg (World.drewN _) (Nat.add_assoc _ _ _))⟩)) | (go_at_call 9; (with_reducible refine (fuzzy_EqualFold.calls a2 a3 t199 _ A44.out).mono ?_); rintro e w' ⟨rfl, ⟨nd, rfl⟩⟩; (try first | exact ⟨rfl, _, World.drewN_drewN _ _ _⟩ | exact ⟨rfl, _, Eq.trans (World.drewN_drewN _ _ _) (congrArg (World.drewN _) (Nat.add_assoc _ _ _))⟩))))
                                go_ret
                                exact ⟨by first | rfl | (simp [errW_none, errW_some] <;> rfl) | (simp [*, errW_none, errW_some] <;> rfl), by repeat (first | (with_reducible first | exact HB.out | apply below_alloc | apply pw_below_drewN | apply below_drew1) | exact HB.out)⟩
                              · rw [if_neg c43] at H
                                have c43b0 : (t188 == t195) = false := by simpa using c43
                                (try (have c43b1 : decide (t188 = t195) = false := by simpa using c43))
                                (try (have c43b2 : (t188 == t195) = false := by simpa using c43))
                                (try (have c43b3 : ¬ (t188 = t195) := by simpa using c43))
                                clear c43
                                obtain rfl := Option.some.inj H
                                obtain ⟨Ao47, co47, eo47⟩ := Kd.R_slice HO_10.out
                                subst eo47
                                obtain ⟨Ao48, co48, eo48⟩ := Kd.V_slice HO_13.out
                                subst eo48
                                go_wp2_with (first | (go_at_call 8; (with_reducible refine (glossatorref4_EqualInts.calls kj25 _ _ t187 _ _ t192 true _ ?side1 ?side2 ?side3 ?side4 A41.out).mono ?_); (case side1 => repeat (first | exact (Kd.R_reads' HO_10.out).2.2 | (with_reducible refine Kd.C_alloc ?_ _) | (with_reducible refine Kd.C_drewN ?_ _) | (with_reducible refine Kd.C_drew ?_))); (case side2 => exact (Kd.R_reads' HO_10.out).2.1); (case side3 => repeat (first | exact (Kd.V_reads' HO_13.out).2.2 | (with_reducible refine Kd.C_alloc ?_ _) | (with_reducible refine Kd.C_drewN ?_ _) | (with_reducible refine Kd.C_drew ?_))); (case side4 => exact (Kd.V_reads' HO_13.out).2.1); rintro e w' ⟨rfl, ⟨nd, rfl⟩⟩; (try first | exact ⟨rfl, _, World.drewN_drewN _ _ _⟩ | exact ⟨rfl, _, Eq.trans (World.drewN_drewN _ _ _) (congrArg (World.drewN _) (Nat.add_assoc _ _ _))⟩)))
                                repeat (go_quiet (first | (go_at_call 8; (with_reducible refine (glossatorref4_EqualInts.calls kj25 _ _ t187 _ _ t192 true _ ?side1 ?side2 ?side3 ?side4 A41.out).mono ?_); (case side1 => repeat (first | exact (Kd.R_reads' HO_10.out).2.2 | (with_reducible refine Kd.C_alloc ?_ _) | (with_reducible refine Kd.C_drewN ?_ _) | (with_reducible refine Kd.C_drew ?_))); (case side2 => exact (Kd.R_reads' HO_10.out).2.1); (case side3 => repeat (first | exact (Kd.V_reads' HO_13.out).2.2 | (with_reducible refine Kd.C_alloc ?_ _) | (with_reducible refine Kd.C_drewN ?_ _) | (with_reducible refine Kd.C_drew ?_))); (case side4 => exact (Kd.V_reads' HO_13.out).2.1); rintro e w' ⟨rfl, ⟨nd, rfl⟩⟩; (try first | exact ⟨rfl, _, World.drewN_drewN _ _ _⟩ | exact ⟨rfl, _, Eq.trans (World.drewN_drewN _ _ _) (congrArg (World.drewN _) (Nat.add_assoc _ _ _))⟩))); try go_wp2_with (first | (go_at_call 8; (with_reducible refine (glossatorref4_EqualInts.calls kj25 _ _ t187 _ _ t192 true _ ?side1 ?side2 ?side3 ?side4 A41.out).mono ?_); (case side1 => repeat (first | exact (Kd.R_reads' HO_10.out).2.2 | (with_reducible refine Kd.C_alloc ?_ _) | (with_reducible refine Kd.C_drewN ?_ _) | (with_reducible refine Kd.C_drew ?_))); (case side2 => exact (Kd.R_reads' HO_10.out).2.1); (case side3 => repeat (first | exact (Kd.V_reads' HO_13.out).2.2 | (with_reducible refine Kd.C_alloc ?_ _) | (with_reducible refine Kd.C_drewN ?_ _) | (with_reducible refine Kd.C_drew ?_))); (case side4 => exact (Kd.V_reads' HO_13.out).2.1); rintro e w' ⟨rfl, ⟨nd, rfl⟩⟩; (try first | exact ⟨rfl, _, World.drewN_drewN _ _ _⟩ | exact ⟨rfl, _, Eq.trans (World.drewN_drewN _ _ _) (congrArg (World.drewN _) (Nat.add_assoc _ _ _))⟩))))
                                go_ret
                                exact ⟨by first | rfl | (simp [errW_none, errW_some] <;> rfl) | (simp [*, errW_none, errW_some] <;> rfl), by repeat (first | (with_reducible first | exact HB.out | apply below_alloc | apply pw_below_drewN | apply below_drew1) | exact HB.out)⟩
                            · replace c42 := Bool.eq_false_iff.mpr c42
                              subst c42
                              have H1 : (some false) = some r := by rw [if_neg (show ¬ (false = true) by decide)] at H; exact H
                              clear H
                              have H := H1
                              clear H1
                              obtain rfl := Option.some.inj H
                              obtain ⟨Ao49, co49, eo49⟩ := Kd.R_slice HO_10.out
                              subst eo49
                              obtain ⟨Ao50, co50, eo50⟩ := Kd.V_slice HO_13.out
                              subst eo50
                              go_wp2_with (first | (go_at_call 8; (with_reducible refine (glossatorref4_EqualInts.calls kj25 _ _ t187 _ _ t192 false _ ?side1 ?side2 ?side3 ?side4 A41.out).mono ?_); (case side1 => repeat (first | exact (Kd.R_reads' HO_10.out).2.2 | (with_reducible refine Kd.C_alloc ?_ _) | (with_reducible refine Kd.C_drewN ?_ _) | (with_reducible refine Kd.C_drew ?_))); (case side2 => exact (Kd.R_reads' HO_10.out).2.1); (case side3 => repeat (first | exact (Kd.V_reads' HO_13.out).2.2 | (with_reducible refine Kd.C_alloc ?_ _) | (with_reducible refine Kd.C_drewN ?_ _) | (with_reducible refine Kd.C_drew ?_))); (case side4 => exact (Kd.V_reads' HO_13.out).2.1); rintro e w' ⟨rfl, ⟨nd, rfl⟩⟩; (try first | exact ⟨rfl, _, World.drewN_drewN _ _ _⟩ | exact ⟨rfl, _, Eq.trans (World.drewN_drewN _ _ _) (congrArg (World.drewN _) (Nat.add_assoc _ _ _))⟩)))
                              repeat (go_quiet (first | (go_at_call 8; (with_reducible refine (glossatorref4_EqualInts.calls kj25 _ _ t187 _ _ t192 false _ ?side1 ?side2 ?side3 ?side4 A41.out).mono ?_); (case side1 => repeat (first | exact (Kd.R_reads' HO_10.out).2.2 | (with_reducible refine Kd.C_alloc ?_ _) | (with_reducible refine Kd.C_drewN ?_ _) | (with_reducible refine Kd.C_drew ?_))); (case side2 => exact (Kd.R_reads' HO_10.out).2.1); (case side3 => repeat (first | exact (Kd.V_reads' HO_13.out).2.2 | (with_reducible refine Kd.C_alloc ?_ _) | (with_reducible refine Kd.C_drewN ?_ _) | (with_reducible refine Kd.C_drew ?_))); (case side4 => exact (Kd.V_reads' HO_13.out).2.1); rintro e w' ⟨rfl, ⟨nd, rfl⟩⟩; (try first | exact ⟨rfl, _, World.drewN_drewN _ _ _⟩ | exact ⟨rfl, _, Eq.trans (World.drewN_drewN _ _ _) (congrArg (World.drewN _) (Nat.add_assoc _ _ _))⟩))); try go_wp2_with (first | (go_at_call 8; (with_reducible refine (glossatorref4_EqualInts.calls kj25 _ _ t187 _ _ t192 false _ ?side1 ?side2 ?side3 ?side4 A41.out).mono ?_); (case side1 => repeat (first | exact (Kd.R_reads' HO_10.out).2.2 | (with_reducible refine Kd.C_alloc ?_ _) | (with_reducible refine Kd.C_drewN ?_ _) | (with_reducible refine Kd.C_drew ?_))); (case side2 => exact (Kd.R_reads' HO_10.out).2.1); (case side3 => repeat (first | exact (Kd.V_reads' HO_13.out).2.2 | (with_reducible refine Kd.C_alloc ?_ _) | (with_reducible refine Kd.C_drewN ?_ _) | (with_reducible refine Kd.C_drew ?_))); (case side4 => exact (Kd.V_reads' HO_13.out).2.1); rintro e w' ⟨rfl, ⟨nd, rfl⟩⟩; (try first | exact ⟨rfl, _, World.drewN_drewN _ _ _⟩ | exact ⟨rfl, _, Eq.trans (World.drewN_drewN _ _ _) (congrArg (World.drewN _) (Nat.add_assoc _ _ _))⟩))))
                              go_ret
                              exact ⟨by first | rfl | (simp [errW_none, errW_some] <;> rfl) | (simp [*, errW_none, errW_some] <;> rfl), by repeat (first | (with_reducible first | exact HB.out | apply below_alloc | apply pw_below_drewN | apply below_drew1) | exact HB.out)⟩
                          · rw [if_neg c40] at H
                            have c40b0 : (t186 == t191) = false := beq_eq_false_iff_ne.mpr c40
                            have c40b1 : (t186 != t191) = true := bne_iff_ne.mpr c40
                            obtain rfl := Option.some.inj H
                            go_wp2
                            repeat (go_quiet (fail); try go_wp2)
                            go_ret
                            exact ⟨by first | rfl | (simp [errW_none, errW_some] <;> rfl) | (simp [*, errW_none, errW_some] <;> rfl), by repeat (first | (with_reducible first | exact HB.out | apply below_alloc | apply pw_below_drewN | apply below_drew1) | exact HB.out)⟩
  · replace c6 := Bool.eq_false_iff.mpr c6
    subst c6
    have H1 : (some false) = some r := by rw [if_neg (show ¬ (false = true) by decide)] at H; exact H
    clear H
    have H := H1
    clear H1
    obtain rfl := Option.some.inj H
    go_enter Try.func3, Try.ntmps3
    go_wp2_with (first | (go_at_call 5; (with_reducible refine (glossatorlaw4_fuzzyExamples.calls k  false _ A5.out).mono ?_); rintro e w51 ⟨rfl, hb⟩; have n0_ := Aside0.mk (below_step (by repeat (first | (with_reducible first | exact HB.out | apply below_alloc | apply pw_below_drewN | apply below_drew1) | exact HB.out)) hb); clear HB; have HB := n0_; clear n0_; (try clear hb); (try clear hb2); (try clear hk); (try clear hi)))
    repeat (go_quiet (first | (go_at_call 5; (with_reducible refine (glossatorlaw4_fuzzyExamples.calls k  false _ A5.out).mono ?_); rintro e w51 ⟨rfl, hb⟩; have n0_ := Aside0.mk (below_step (by repeat (first | (with_reducible first | exact HB.out | apply below_alloc | apply pw_below_drewN | apply below_drew1) | exact HB.out)) hb); clear HB; have HB := n0_; clear n0_; (try clear hb); (try clear hb2); (try clear hk); (try clear hi))); try go_wp2_with (first | (go_at_call 5; (with_reducible refine (glossatorlaw4_fuzzyExamples.calls k  false _ A5.out).mono ?_); rintro e w51 ⟨rfl, hb⟩; have n0_ := Aside0.mk (below_step (by repeat (first | (with_reducible first | exact HB.out | apply below_alloc | apply pw_below_drewN | apply below_drew1) | exact HB.out)) hb); clear HB; have HB := n0_; clear n0_; (try clear hb); (try clear hb2); (try clear hk); (try clear hi))))
    go_ret
    exact ⟨by first | rfl | (simp [errW_none, errW_some] <;> rfl) | (simp [*, errW_none, errW_some] <;> rfl), by repeat (first | (with_reducible first | exact HB.out | apply below_alloc | apply pw_below_drewN | apply below_drew1) | exact HB.out)⟩

/-- THE ONE PURE STATEMENT of glossatorlaw4_FuzzyScoreEqualsReference: yours. -/
def glossatorlaw4_FuzzyScoreEqualsReference.Pure : Prop := ∀ (a0 : ByteArray) (a1 : ByteArray) (a2 : Int) (a3 : Int), a0.size ≤ 140737488351232 → a1.size ≤ 140737488351232 → (Lit.int .u8 a2).wf = true → (Lit.int .u8 a3).wf = true → ∃ k, glossatorlaw4_FuzzyScoreEqualsReference.f k a0 a1 a2 a3 = some true
theorem glossatorlaw4_FuzzyScoreEqualsReference.walk (P : glossatorlaw4_FuzzyScoreEqualsReference.Pure) (a0 : ByteArray) (a1 : ByteArray) (a2 : Int) (a3 : Int) (w : World) (w0 : a0.size ≤ 140737488351232) (w1 : a1.size ≤ 140737488351232) (w2 : (Lit.int .u8 a2).wf = true) (w3 : (Lit.int .u8 a3).wf = true) :
    Calls Try.prog 3 #[.string a0, .string a1, .int .u8 a2, .int .u8 a3] w fun e w' => e = .returned (.bool true) ∧ Below w.heap.size w w' := by
  obtain ⟨k, h⟩ := P a0 a1 a2 a3 w0 w1 w2 w3
  refine (glossatorlaw4_FuzzyScoreEqualsReference.calls k a0 a1 a2 a3 true w h).mono ?_
  rintro e w' ⟨rfl, hd⟩
  exact ⟨rfl, hd⟩

end Go.Proofs.Ytpkdgdhfhgelbaa.QFuzzyScoreEqualsReference
