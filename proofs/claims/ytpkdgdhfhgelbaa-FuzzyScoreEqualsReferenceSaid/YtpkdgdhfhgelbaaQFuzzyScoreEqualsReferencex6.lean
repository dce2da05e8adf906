-- Written by gen.py (this repo's wip/), which runs the kit's print.py with more arms. Lean checks it.
import Derived.Test.YtpkdgdhfhgelbaaQFuzzyScoreEqualsReferencex0
namespace Go.Proofs.Ytpkdgdhfhgelbaa.QFuzzyScoreEqualsReference
open Go.RowKit Go.Proofs.YtpkdgdhfhgelbaaW.PrintWords Go.Proofs.YtpkdgdhfhgelbaaW.PrintLast Go.Proofs.YtpkdgdhfhgelbaaW.PrintMore
attribute [local go_sem] max2_int min2_int max_two min_two max_three min_three max_four min_four   -- for this text's walks alone
set_option linter.unusedVariables false
set_option linter.unusedSimpArgs false

private theorem isEmpty_bne {α : Type} [BEq α] (l : List α) : (l != []) = !l.isEmpty := by cases l <;> rfl

/-! ### glossatorref4_FuzzyAlignmentScore: function 14 -/
mutual
def glossatorref4_FuzzyAlignmentScore.l0 : Nat → ByteArray → ByteArray → List Int → Int → Int → Option (Int)
  | 0, _, _, _, _, _ => none
  | k + 1, x0, x1, x2, x7, x8 => if x8 < (x2.length : Int) then (if 0 ≤ x8 then (if x8 < (x0.size : Int) then (if 0 ≤ (rd x2 x8) then (if (rd x2 x8) < (x1.size : Int) then (if (bt x0 x8) = (bt x1 (rd x2 x8)) then (glossatorref4_FuzzyAlignmentScore.j1 k x0 x1 x2 (wrap64 ((wrap64 (x7 + 1)) + 1)) x8 (rd x2 x8)) else (glossatorref4_FuzzyAlignmentScore.j1 k x0 x1 x2 (wrap64 (x7 + 1)) x8 (rd x2 x8))) else (none)) else (none)) else (none)) else (none)) else (some x7)
def glossatorref4_FuzzyAlignmentScore.j1 : Nat → ByteArray → ByteArray → List Int → Int → Int → Int → Option (Int)
  | 0, _, _, _, _, _, _ => none
  | k + 1, x0, x1, x2, x7, x8, x9 => if 0 ≤ x9 then (if x9 < (x1.size : Int) then (if (bt x1 x9) ≥ 65 then (glossatorref4_FuzzyAlignmentScore.j2 k x0 x1 x2 x7 x8 x9 (decide ((bt x1 x9) ≤ 90))) else (glossatorref4_FuzzyAlignmentScore.j2 k x0 x1 x2 x7 x8 x9 false)) else (none)) else (none)
def glossatorref4_FuzzyAlignmentScore.j2 : Nat → ByteArray → ByteArray → List Int → Int → Int → Int → Bool → Option (Int)
  | 0, _, _, _, _, _, _, _ => none
  | k + 1, x0, x1, x2, x7, x8, x9, x10 => if x9 = 0 then (glossatorref4_FuzzyAlignmentScore.j3 k x0 x1 x2 x7 x8 x9 true) else (if 0 ≤ (wrap64 (x9 - 1)) then (if (wrap64 (x9 - 1)) < (x1.size : Int) then (if (bt x1 (wrap64 (x9 - 1))) = 95 then (glossatorref4_FuzzyAlignmentScore.j3 k x0 x1 x2 x7 x8 x9 true) else (if x10 = true then (if (bt x1 (wrap64 (x9 - 1))) ≥ 65 then (glossatorref4_FuzzyAlignmentScore.j3 k x0 x1 x2 x7 x8 x9 (!(decide ((bt x1 (wrap64 (x9 - 1))) ≤ 90)))) else (glossatorref4_FuzzyAlignmentScore.j3 k x0 x1 x2 x7 x8 x9 (!false))) else (glossatorref4_FuzzyAlignmentScore.j3 k x0 x1 x2 x7 x8 x9 false))) else (none)) else (none))
def glossatorref4_FuzzyAlignmentScore.j3 : Nat → ByteArray → ByteArray → List Int → Int → Int → Int → Bool → Option (Int)
  | 0, _, _, _, _, _, _, _ => none
  | k + 1, x0, x1, x2, x7, x8, x9, x68 => if x68 = true then (if x8 > 0 then (if 0 ≤ (wrap64 (x8 - 1)) then (if (wrap64 (x8 - 1)) < (x2.length : Int) then (if x9 = (wrap64 ((rd x2 (wrap64 (x8 - 1))) + 1)) then (glossatorref4_FuzzyAlignmentScore.l0 k x0 x1 x2 (wrap64 ((wrap64 (x7 + 4)) + 3)) (wrap64 (x8 + 1))) else (glossatorref4_FuzzyAlignmentScore.l0 k x0 x1 x2 (wrap64 (x7 + 4)) (wrap64 (x8 + 1)))) else (none)) else (none)) else (glossatorref4_FuzzyAlignmentScore.l0 k x0 x1 x2 (wrap64 (x7 + 4)) (wrap64 (x8 + 1)))) else (if x8 > 0 then (if 0 ≤ (wrap64 (x8 - 1)) then (if (wrap64 (x8 - 1)) < (x2.length : Int) then (if x9 = (wrap64 ((rd x2 (wrap64 (x8 - 1))) + 1)) then (glossatorref4_FuzzyAlignmentScore.l0 k x0 x1 x2 (wrap64 (x7 + 3)) (wrap64 (x8 + 1))) else (glossatorref4_FuzzyAlignmentScore.l0 k x0 x1 x2 x7 (wrap64 (x8 + 1)))) else (none)) else (none)) else (glossatorref4_FuzzyAlignmentScore.l0 k x0 x1 x2 x7 (wrap64 (x8 + 1))))
end
def glossatorref4_FuzzyAlignmentScore.f (k : Nat) (a0 : ByteArray) (a1 : ByteArray) (l2 : List Int) : Option (Int) := glossatorref4_FuzzyAlignmentScore.l0 k a0 a1 l2 0 0
theorem glossatorref4_FuzzyAlignmentScore.mono_l : ∀ k, (∀ y0 y1 y2 y3 y4, LeO (glossatorref4_FuzzyAlignmentScore.l0 k y0 y1 y2 y3 y4) (glossatorref4_FuzzyAlignmentScore.l0 (k + 1) y0 y1 y2 y3 y4)) ∧ (∀ y0 y1 y2 y3 y4 y5, LeO (glossatorref4_FuzzyAlignmentScore.j1 k y0 y1 y2 y3 y4 y5) (glossatorref4_FuzzyAlignmentScore.j1 (k + 1) y0 y1 y2 y3 y4 y5)) ∧ (∀ y0 y1 y2 y3 y4 y5 y6, LeO (glossatorref4_FuzzyAlignmentScore.j2 k y0 y1 y2 y3 y4 y5 y6) (glossatorref4_FuzzyAlignmentScore.j2 (k + 1) y0 y1 y2 y3 y4 y5 y6)) ∧ (∀ y0 y1 y2 y3 y4 y5 y6, LeO (glossatorref4_FuzzyAlignmentScore.j3 k y0 y1 y2 y3 y4 y5 y6) (glossatorref4_FuzzyAlignmentScore.j3 (k + 1) y0 y1 y2 y3 y4 y5 y6))
  | 0 => ⟨fun _ _ _ _ _ r h => by simp [glossatorref4_FuzzyAlignmentScore.l0] at h, fun _ _ _ _ _ _ r h => by simp [glossatorref4_FuzzyAlignmentScore.j1] at h, fun _ _ _ _ _ _ _ r h => by simp [glossatorref4_FuzzyAlignmentScore.j2] at h, fun _ _ _ _ _ _ _ r h => by simp [glossatorref4_FuzzyAlignmentScore.j3] at h⟩
  | k + 1 => by
    obtain ⟨ih0, ih1, ih2, ih3⟩ := glossatorref4_FuzzyAlignmentScore.mono_l k
    refine ⟨?_, ?_, ?_, ?_⟩
    · intro y0 y1 y2 y3 y4
      unfold glossatorref4_FuzzyAlignmentScore.l0
      repeat' first
      | (with_reducible exact ih0 _ _ _ _ _)
      | (with_reducible exact ih1 _ _ _ _ _ _)
      | (with_reducible exact ih2 _ _ _ _ _ _ _)
      | (with_reducible exact ih3 _ _ _ _ _ _ _)
      | (with_reducible exact LeO.refl _)
      | (with_reducible exact LeO.none _)
      | (with_reducible refine LeO.ite ?_ ?_)
      | (with_reducible refine LeO.bind ?_ (fun _ => ?_))
      | exact ih0 _ _ _ _ _
      | exact ih1 _ _ _ _ _ _
      | exact ih2 _ _ _ _ _ _ _
      | exact ih3 _ _ _ _ _ _ _
      | exact LeO.none _
      | refine LeO.ite ?_ ?_
      | refine LeO.bind ?_ (fun _ => ?_)
    · intro y0 y1 y2 y3 y4 y5
      unfold glossatorref4_FuzzyAlignmentScore.j1
      repeat' first
      | (with_reducible exact ih0 _ _ _ _ _)
      | (with_reducible exact ih1 _ _ _ _ _ _)
      | (with_reducible exact ih2 _ _ _ _ _ _ _)
      | (with_reducible exact ih3 _ _ _ _ _ _ _)
      | (with_reducible exact LeO.refl _)
      | (with_reducible exact LeO.none _)
      | (with_reducible refine LeO.ite ?_ ?_)
      | (with_reducible refine LeO.bind ?_ (fun _ => ?_))
      | exact ih0 _ _ _ _ _
      | exact ih1 _ _ _ _ _ _
      | exact ih2 _ _ _ _ _ _ _
      | exact ih3 _ _ _ _ _ _ _
      | exact LeO.none _
      | refine LeO.ite ?_ ?_
      | refine LeO.bind ?_ (fun _ => ?_)
    · intro y0 y1 y2 y3 y4 y5 y6
      unfold glossatorref4_FuzzyAlignmentScore.j2
      repeat' first
      | (with_reducible exact ih0 _ _ _ _ _)
      | (with_reducible exact ih1 _ _ _ _ _ _)
      | (with_reducible exact ih2 _ _ _ _ _ _ _)
      | (with_reducible exact ih3 _ _ _ _ _ _ _)
      | (with_reducible exact LeO.refl _)
      | (with_reducible exact LeO.none _)
      | (with_reducible refine LeO.ite ?_ ?_)
      | (with_reducible refine LeO.bind ?_ (fun _ => ?_))
      | exact ih0 _ _ _ _ _
      | exact ih1 _ _ _ _ _ _
      | exact ih2 _ _ _ _ _ _ _
      | exact ih3 _ _ _ _ _ _ _
      | exact LeO.none _
      | refine LeO.ite ?_ ?_
      | refine LeO.bind ?_ (fun _ => ?_)
    · intro y0 y1 y2 y3 y4 y5 y6
      unfold glossatorref4_FuzzyAlignmentScore.j3
      repeat' first
      | (with_reducible exact ih0 _ _ _ _ _)
      | (with_reducible exact ih1 _ _ _ _ _ _)
      | (with_reducible exact ih2 _ _ _ _ _ _ _)
      | (with_reducible exact ih3 _ _ _ _ _ _ _)
      | (with_reducible exact LeO.refl _)
      | (with_reducible exact LeO.none _)
      | (with_reducible refine LeO.ite ?_ ?_)
      | (with_reducible refine LeO.bind ?_ (fun _ => ?_))
      | exact ih0 _ _ _ _ _
      | exact ih1 _ _ _ _ _ _
      | exact ih2 _ _ _ _ _ _ _
      | exact ih3 _ _ _ _ _ _ _
      | exact LeO.none _
      | refine LeO.ite ?_ ?_
      | refine LeO.bind ?_ (fun _ => ?_)
theorem glossatorref4_FuzzyAlignmentScore.mono : ∀ a0 a1 a2 k, LeO (glossatorref4_FuzzyAlignmentScore.f k a0 a1 a2) (glossatorref4_FuzzyAlignmentScore.f (k + 1) a0 a1 a2) := by
  intro a0 a1 a2 k
  obtain ⟨ih0, ih1, ih2, ih3⟩ := glossatorref4_FuzzyAlignmentScore.mono_l k
  unfold glossatorref4_FuzzyAlignmentScore.f
  repeat' first
      | (with_reducible exact ih0 _ _ _ _ _)
      | (with_reducible exact ih1 _ _ _ _ _ _)
      | (with_reducible exact ih2 _ _ _ _ _ _ _)
      | (with_reducible exact ih3 _ _ _ _ _ _ _)
      | (with_reducible exact LeO.refl _)
      | (with_reducible exact LeO.none _)
      | (with_reducible refine LeO.ite ?_ ?_)
      | (with_reducible refine LeO.bind ?_ (fun _ => ?_))
      | exact ih0 _ _ _ _ _
      | exact ih1 _ _ _ _ _ _
      | exact ih2 _ _ _ _ _ _ _
      | exact ih3 _ _ _ _ _ _ _
      | exact LeO.none _
      | refine LeO.ite ?_ ?_
      | refine LeO.bind ?_ (fun _ => ?_)
set_option maxHeartbeats 8000000 in
set_option maxRecDepth 100000 in
theorem glossatorref4_FuzzyAlignmentScore.calls (k : Nat) (a0 : ByteArray) (a1 : ByteArray) (A2 : Option Addr) (c2 : Nat) (l2 : List Int) (r : Int) (w : World) (hr2 : Kd.C (Kd.int .i64) w A2 l2.length l2) (hc2 : l2.length ≤ c2) (h : glossatorref4_FuzzyAlignmentScore.f k a0 a1 l2 = some r) :
    Calls Try.prog 14 #[.string a0, .string a1, .slice A2 l2.length c2] w fun e w' => e = .returned (.int .i64 r) ∧ Drawn0 w w' := by
  have HR2 := Aside0.mk hr2
  have HC2 := Aside0.mk hc2
  clear hr2 hc2
  have H : (glossatorref4_FuzzyAlignmentScore.l0 k a0 a1 l2 0 0) = some r := h
  clear h
  have H' := Aside0.mk H
  clear H
  go_enter Try.func14, Try.ntmps14
  go_wp2
  repeat (go_quiet (fail); try go_wp2)
  go_loopg [7, 8] k (fun kq v7 v8 w' => ∃ (x7_1 : Int) (x8_1 : Int), v7 = .int .i64 x7_1 ∧ v8 = .int .i64 x8_1 ∧ Aside0 (glossatorref4_FuzzyAlignmentScore.l0 kq a0 a1 l2 x7_1 x8_1 = some r) ∧ Aside0 (kq ≤ k) ∧ Drawn0 w w')
  case atStart => exact ⟨(0), (0), (by first | rfl | (simp; done) | (simp [*]; done) | (simp [isEmpty_bne]; done)), (by first | rfl | (simp; done) | (simp [*]; done) | (simp [isEmpty_bne]; done)), H', ⟨Nat.le_refl _⟩, by repeat (first | exact Drawn0.refl _ | apply Drawn0.step)⟩
  case round =>
    clear H'
    try clear c1
    try clear c2
    try clear p2
    obtain ⟨x7_1, x8_1, rfl, rfl, HA, HK1, ⟨m1, rfl⟩⟩ := hrel
    cases gk with
    | zero => exact absurd HA.out (by simp [glossatorref4_FuzzyAlignmentScore.l0])
    | succ k1 =>
      have H := HA.out
      clear HA
      simp only [glossatorref4_FuzzyAlignmentScore.l0] at H
      by_cases c4 : x8_1 < (l2.length : Int)
      · rw [if_pos c4] at H
        have c4b0 : decide (x8_1 < (l2.length : Int)) = true := decide_eq_true c4
        clear c4
        by_cases c5 : 0 ≤ x8_1
        · rw [if_pos c5] at H
          have c5b0 : decide (0 ≤ x8_1) = true := decide_eq_true c5
          clear c5
          by_cases c6 : x8_1 < (a0.size : Int)
          · rw [if_pos c6] at H
            have c6b0 : decide (x8_1 < (a0.size : Int)) = true := decide_eq_true c6
            clear c6
            by_cases c8 : 0 ≤ (rd l2 x8_1)
            · rw [if_pos c8] at H
              have c8b0 : decide (0 ≤ (rd l2 x8_1)) = true := decide_eq_true c8
              clear c8
              by_cases c9 : (rd l2 x8_1) < (a1.size : Int)
              · rw [if_pos c9] at H
                have c9b0 : decide ((rd l2 x8_1) < (a1.size : Int)) = true := decide_eq_true c9
                clear c9
                have HC11 := Aside0.mk H
                clear H
                have p176 : 0 ≤ (x8_1 : Int) := of_decide_eq_true (by first | (with_reducible assumption) | assumption)
                have q176 : x8_1 < (l2.length : Int) := of_decide_eq_true (by first | (with_reducible assumption) | assumption)
                obtain ⟨ad176, e176, hx176_0⟩ := Kd.at_int HR2.out x8_1 p176 q176
                cases e176
                replace p176 := eq_true p176
                replace q176 := eq_true q176
                have p7 : 0 ≤ (x8_1 : Int) := of_decide_eq_true (by first | (with_reducible assumption) | assumption)
                have q7 : x8_1 < (a0.size : Int) := of_decide_eq_true (by first | (with_reducible assumption) | assumption)
                have hx7 := bt_at a0 x8_1
                replace p7 := eq_true p7
                replace q7 := eq_true q7
                have p10 : 0 ≤ ((rd l2 x8_1) : Int) := of_decide_eq_true (by first | (with_reducible assumption) | assumption)
                have q10 : (rd l2 x8_1) < (a1.size : Int) := of_decide_eq_true (by first | (with_reducible assumption) | assumption)
                have hx10 := bt_at a1 (rd l2 x8_1)
                replace p10 := eq_true p10
                replace q10 := eq_true q10
                go_upto_if 29 with (fail)
                repeat (go_quiet (fail); go_upto_if 29 with (fail))
                go_cut [7] (fun v7 wc => ∃ (kq : Nat) (x7_10 : Int), v7 = .int .i64 x7_10 ∧ Aside0 (glossatorref4_FuzzyAlignmentScore.j1 kq a0 a1 l2 x7_10 x8_1 (rd l2 x8_1) = some r) ∧ Aside0 (kq ≤ k1) ∧ Drawn0 w wc)
                case first =>
                  have H := HC11.out
                  clear HC11
                  by_cases c12 : (bt a0 x8_1) = (bt a1 (rd l2 x8_1))
                  · rw [if_pos c12] at H
                    have c12b0 : ((bt a0 x8_1) == (bt a1 (rd l2 x8_1))) = true := beq_iff_eq.mpr c12
                    have c12b1 : ((bt a0 x8_1) != (bt a1 (rd l2 x8_1))) = false := bne_eq_false_iff_eq.mpr c12
                    clear c12
                    (first | rw [c12b1] | rw [c12b0] | (simp only [i64_w, i32_w]; rw [c12b0]) | skip)
                    have H' := Aside0.mk H
                    clear H
                    go_wp2
                    repeat (go_quiet (fail); try go_wp2)
                    go_meet
                    case rel => exact ⟨_, (wrap64 ((wrap64 (x7_1 + 1)) + 1)), (by first | rfl | (simp; done) | (simp [*]; done) | (simp [isEmpty_bne]; done)), H', ⟨by have := HK1.out; first | omega | exact Nat.le_refl _⟩, by repeat (first | exact Drawn0.refl _ | apply Drawn0.step)⟩
                  · rw [if_neg c12] at H
                    have c12b0 : ((bt a0 x8_1) == (bt a1 (rd l2 x8_1))) = false := beq_eq_false_iff_ne.mpr c12
                    have c12b1 : ((bt a0 x8_1) != (bt a1 (rd l2 x8_1))) = true := bne_iff_ne.mpr c12
                    (first | rw [c12b1] | rw [c12b0] | (simp only [i64_w, i32_w]; rw [c12b0]) | skip)
                    have H' := Aside0.mk H
                    clear H
                    go_wp2
                    repeat (go_quiet (fail); try go_wp2)
                    go_meet
                    case rel => exact ⟨_, (wrap64 (x7_1 + 1)), (by first | rfl | (simp; done) | (simp [*]; done) | (simp [isEmpty_bne]; done)), H', ⟨by have := HK1.out; first | omega | exact Nat.le_refl _⟩, by repeat (first | exact Drawn0.refl _ | apply Drawn0.step)⟩
                case rest =>
                  clear HC11
                  try clear c1
                  try clear p1
                  try clear q1
                  try clear hx1
                  try clear c2
                  try clear p2
                  try clear c4
                  try clear c4b0
                  try clear c5
                  try clear c5b0
                  try clear c6
                  try clear c6b0
                  try clear p6
                  try clear p7
                  try clear q7
                  try clear hx7
                  try clear c8
                  try clear c8b0
                  try clear c9
                  try clear c9b0
                  try clear p10
                  try clear q10
                  try clear hx10
                  try clear c12
                  try clear c12b0
                  try clear c12b1
                  try clear hx176_0
                  try clear p10
                  try clear p176
                  try clear p2
                  try clear p7
                  try clear q10
                  try clear q176
                  try clear q7
                  obtain ⟨kq, x7_10, rfl, HA, HJ10, ⟨mc10, rfl⟩⟩ := hcut
                  cases kq with
                  | zero => exact absurd HA.out (by simp [glossatorref4_FuzzyAlignmentScore.j1])
                  | succ kj10 =>
                    have H := HA.out
                    clear HA
                    simp only [glossatorref4_FuzzyAlignmentScore.j1] at H
                    have HC13 := Aside0.mk H
                    clear H
                    go_upto_region 9 with (fail)
                    repeat (go_quiet (fail); go_upto_region 9 with (fail))
                    go_cut [10] (fun v10 wc => ∃ (kq : Nat) (x10_12 : Bool), v10 = .bool x10_12 ∧ Aside0 (glossatorref4_FuzzyAlignmentScore.j2 kq a0 a1 l2 x7_10 x8_1 (rd l2 x8_1) x10_12 = some r) ∧ Aside0 (kq ≤ kj10) ∧ Drawn0 w wc)
                    case first =>
                      have H := HC13.out
                      clear HC13
                      by_cases c14 : 0 ≤ (rd l2 x8_1)
                      · rw [if_pos c14] at H
                        have c14b0 : decide (0 ≤ (rd l2 x8_1)) = true := decide_eq_true c14
                        clear c14
                        (first | rw [c14b1] | rw [c14b0] | (simp only [i64_w, i32_w]; rw [c14b0]) | skip)
                        by_cases c15 : (rd l2 x8_1) < (a1.size : Int)
                        · rw [if_pos c15] at H
                          have c15b0 : decide ((rd l2 x8_1) < (a1.size : Int)) = true := decide_eq_true c15
                          clear c15
                          by_cases c17 : (bt a1 (rd l2 x8_1)) ≥ 65
                          · rw [if_pos c17] at H
                            have c17b0 : decide (65 ≤ (bt a1 (rd l2 x8_1))) = true := decide_eq_true c17
                            clear c17
                            have H' := Aside0.mk H
                            clear H
                            have p16 : 0 ≤ ((rd l2 x8_1) : Int) := of_decide_eq_true (by first | (with_reducible assumption) | assumption)
                            have q16 : (rd l2 x8_1) < (a1.size : Int) := of_decide_eq_true (by first | (with_reducible assumption) | assumption)
                            have hx16 := bt_at a1 (rd l2 x8_1)
                            replace p16 := eq_true p16
                            replace q16 := eq_true q16
                            have p18 : 0 ≤ ((rd l2 x8_1) : Int) := of_decide_eq_true (by first | (with_reducible assumption) | assumption)
                            have q18 : (rd l2 x8_1) < (a1.size : Int) := of_decide_eq_true (by first | (with_reducible assumption) | assumption)
                            have hx18 := bt_at a1 (rd l2 x8_1)
                            replace p18 := eq_true p18
                            replace q18 := eq_true q18
                            go_wp2
                            repeat (go_quiet (fail); try go_wp2)
                            go_meet
                            case rel => exact ⟨_, (decide ((bt a1 (rd l2 x8_1)) ≤ 90)), (by first | rfl | (simp; done) | (simp [*]; done) | (simp [isEmpty_bne]; done)), H', ⟨by have := HK1.out; have := HJ10.out; first | omega | exact Nat.le_refl _⟩, by repeat (first | exact Drawn0.refl _ | apply Drawn0.step)⟩
                          · rw [if_neg c17] at H
                            have c17b0 : decide (65 ≤ (bt a1 (rd l2 x8_1))) = false := decide_eq_false c17
                            clear c17
                            have H' := Aside0.mk H
                            clear H
                            have p16 : 0 ≤ ((rd l2 x8_1) : Int) := of_decide_eq_true (by first | (with_reducible assumption) | assumption)
                            have q16 : (rd l2 x8_1) < (a1.size : Int) := of_decide_eq_true (by first | (with_reducible assumption) | assumption)
                            have hx16 := bt_at a1 (rd l2 x8_1)
                            replace p16 := eq_true p16
                            replace q16 := eq_true q16
                            go_wp2
                            repeat (go_quiet (fail); try go_wp2)
                            go_meet
                            case rel => exact ⟨_, (false), (by first | rfl | (simp; done) | (simp [*]; done) | (simp [isEmpty_bne]; done)), H', ⟨by have := HK1.out; have := HJ10.out; first | omega | exact Nat.le_refl _⟩, by repeat (first | exact Drawn0.refl _ | apply Drawn0.step)⟩
                        · rw [if_neg c15] at H
                          exact absurd H (by simp)
                      · rw [if_neg c14] at H
                        exact absurd H (by simp)
                    case rest =>
                      clear HC13
                      try clear c1
                      try clear p1
                      try clear q1
                      try clear hx1
                      try clear c2
                      try clear p2
                      try clear c4
                      try clear c4b0
                      try clear c5
                      try clear c5b0
                      try clear c6
                      try clear c6b0
                      try clear p6
                      try clear p7
                      try clear q7
                      try clear hx7
                      try clear c8
                      try clear c8b0
                      try clear c9
                      try clear c9b0
                      try clear c10
                      try clear p10
                      try clear q10
                      try clear hx10
                      try clear c12
                      try clear c12b0
                      try clear c12b1
                      try clear c14
                      try clear c14b0
                      try clear c15
                      try clear c15b0
                      try clear p16
                      try clear q16
                      try clear hx16
                      try clear c17
                      try clear c17b0
                      try clear p17
                      try clear q17
                      try clear hx17
                      try clear p18
                      try clear q18
                      try clear hx18
                      try clear hx176_0
                      try clear p1
                      try clear p10
                      try clear p16
                      try clear p176
                      try clear p18
                      try clear p2
                      try clear p6
                      try clear p7
                      try clear q1
                      try clear q10
                      try clear q16
                      try clear q176
                      try clear q18
                      try clear q7
                      obtain ⟨kq, x10_12, rfl, HA, HJ12, ⟨mc12, rfl⟩⟩ := hcut
                      cases kq with
                      | zero => exact absurd HA.out (by simp [glossatorref4_FuzzyAlignmentScore.j2])
                      | succ kj12 =>
                        have H := HA.out
                        clear HA
                        simp only [glossatorref4_FuzzyAlignmentScore.j2] at H
                        have HC19 := Aside0.mk H
                        clear H
                        go_upto_region 10 with (fail)
                        repeat (go_quiet (fail); go_upto_region 10 with (fail))
                        go_cut [68] (fun v68 wc => ∃ (kq : Nat) (x68_18 : Bool), v68 = .bool x68_18 ∧ Aside0 (glossatorref4_FuzzyAlignmentScore.j3 kq a0 a1 l2 x7_10 x8_1 (rd l2 x8_1) x68_18 = some r) ∧ Aside0 (kq ≤ kj12) ∧ Drawn0 w wc)
                        case first =>
                          have H := HC19.out
                          clear HC19
                          by_cases c20 : (rd l2 x8_1) = 0
                          · rw [if_pos c20] at H
                            have c20b0 : ((rd l2 x8_1) == 0) = true := beq_iff_eq.mpr c20
                            have c20b1 : ((rd l2 x8_1) != 0) = false := bne_eq_false_iff_eq.mpr c20
                            clear c20
                            (first | rw [c20b1] | rw [c20b0] | (simp only [i64_w, i32_w]; rw [c20b0]) | skip)
                            have H' := Aside0.mk H
                            clear H
                            go_wp2
                            repeat (go_quiet (fail); try go_wp2)
                            go_meet
                            case rel => exact ⟨_, (true), (by first | rfl | (simp; done) | (simp [*]; done) | (simp [isEmpty_bne]; done)), H', ⟨by have := HK1.out; have := HJ10.out; have := HJ12.out; first | omega | exact Nat.le_refl _⟩, by repeat (first | exact Drawn0.refl _ | apply Drawn0.step)⟩
                          · rw [if_neg c20] at H
                            have c20b0 : ((rd l2 x8_1) == 0) = false := beq_eq_false_iff_ne.mpr c20
                            have c20b1 : ((rd l2 x8_1) != 0) = true := bne_iff_ne.mpr c20
                            (first | rw [c20b1] | rw [c20b0] | (simp only [i64_w, i32_w]; rw [c20b0]) | skip)
                            obtain ⟨ji21, hji21⟩ : ∃ j_ : Int, (wrap64 ((rd l2 x8_1) - 1)) = j_ := ⟨_, rfl⟩
                            replace H : (if 0 ≤ (ji21) then (if (ji21) < (a1.size : Int) then (if (bt a1 (ji21)) = 95 then (glossatorref4_FuzzyAlignmentScore.j3 kj12 a0 a1 l2 x7_10 x8_1 (rd l2 x8_1) true) else (if x10_12 = true then (if (bt a1 (ji21)) ≥ 65 then (glossatorref4_FuzzyAlignmentScore.j3 kj12 a0 a1 l2 x7_10 x8_1 (rd l2 x8_1) (!(decide ((bt a1 (ji21)) ≤ 90)))) else (glossatorref4_FuzzyAlignmentScore.j3 kj12 a0 a1 l2 x7_10 x8_1 (rd l2 x8_1) (!false))) else (glossatorref4_FuzzyAlignmentScore.j3 kj12 a0 a1 l2 x7_10 x8_1 (rd l2 x8_1) false))) else (none)) else (none)) = some r := by first | (rw [hji21] at H; exact H) | (simp only [hji21] at H ⊢; exact H)
                            have hji21w : (IntKind.i64.wrap ((rd l2 x8_1) - 1)) = ji21 := (i64_w _).trans hji21
                            by_cases c22 : 0 ≤ (ji21)
                            · rw [if_pos c22] at H
                              have c22b0 : decide (0 ≤ (ji21)) = true := decide_eq_true c22
                              clear c22
                              by_cases c23 : (ji21) < (a1.size : Int)
                              · rw [if_pos c23] at H
                                have c23b0 : decide ((ji21) < (a1.size : Int)) = true := decide_eq_true c23
                                clear c23
                                by_cases c25 : (bt a1 (ji21)) = 95
                                · rw [if_pos c25] at H
                                  have c25b0 : ((bt a1 (ji21)) == 95) = true := beq_iff_eq.mpr c25
                                  have c25b1 : ((bt a1 (ji21)) != 95) = false := bne_eq_false_iff_eq.mpr c25
                                  clear c25
                                  have H' := Aside0.mk H
                                  clear H
                                  have p24 : 0 ≤ ((ji21) : Int) := of_decide_eq_true (by first | (with_reducible assumption) | assumption)
                                  have q24 : (ji21) < (a1.size : Int) := of_decide_eq_true (by first | (with_reducible assumption) | assumption)
                                  have hx24 := bt_at a1 (ji21)
                                  replace p24 := eq_true p24
                                  replace q24 := eq_true q24
                                  go_wp2
                                  repeat (go_quiet (fail); try go_wp2)
                                  go_meet
                                  case rel => exact ⟨_, (true), (by first | rfl | (simp; done) | (simp [*]; done) | (simp [isEmpty_bne]; done)), H', ⟨by have := HK1.out; have := HJ10.out; have := HJ12.out; first | omega | exact Nat.le_refl _⟩, by repeat (first | exact Drawn0.refl _ | apply Drawn0.step)⟩
                                · rw [if_neg c25] at H
                                  have c25b0 : ((bt a1 (ji21)) == 95) = false := beq_eq_false_iff_ne.mpr c25
                                  have c25b1 : ((bt a1 (ji21)) != 95) = true := bne_iff_ne.mpr c25
                                  by_cases c26 : x10_12 = true
                                  · subst c26
                                    have H1 : (if (bt a1 (ji21)) ≥ 65 then (glossatorref4_FuzzyAlignmentScore.j3 kj12 a0 a1 l2 x7_10 x8_1 (rd l2 x8_1) (!(decide ((bt a1 (ji21)) ≤ 90)))) else (glossatorref4_FuzzyAlignmentScore.j3 kj12 a0 a1 l2 x7_10 x8_1 (rd l2 x8_1) (!false))) = some r := by rw [if_pos rfl] at H; exact H
                                    clear H
                                    have H := H1
                                    clear H1
                                    by_cases c28 : (bt a1 (ji21)) ≥ 65
                                    · rw [if_pos c28] at H
                                      have c28b0 : decide (65 ≤ (bt a1 (ji21))) = true := decide_eq_true c28
                                      clear c28
                                      have H' := Aside0.mk H
                                      clear H
                                      have p24 : 0 ≤ ((ji21) : Int) := of_decide_eq_true (by first | (with_reducible assumption) | assumption)
                                      have q24 : (ji21) < (a1.size : Int) := of_decide_eq_true (by first | (with_reducible assumption) | assumption)
                                      have hx24 := bt_at a1 (ji21)
                                      replace p24 := eq_true p24
                                      replace q24 := eq_true q24
                                      have p27 : 0 ≤ ((ji21) : Int) := of_decide_eq_true (by first | (with_reducible assumption) | assumption)
                                      have q27 : (ji21) < (a1.size : Int) := of_decide_eq_true (by first | (with_reducible assumption) | assumption)
                                      have hx27 := bt_at a1 (ji21)
                                      replace p27 := eq_true p27
                                      replace q27 := eq_true q27
                                      have p29 : 0 ≤ ((ji21) : Int) := of_decide_eq_true (by first | (with_reducible assumption) | assumption)
                                      have q29 : (ji21) < (a1.size : Int) := of_decide_eq_true (by first | (with_reducible assumption) | assumption)
                                      have hx29 := bt_at a1 (ji21)
                                      replace p29 := eq_true p29
                                      replace q29 := eq_true q29
                                      go_wp2
                                      repeat (go_quiet (fail); try go_wp2)
                                      go_meet
                                      case rel => exact ⟨_, (!(decide ((bt a1 (ji21)) ≤ 90))), (by first | rfl | (simp; done) | (simp only [← hji21] <;> (first | rfl | simp)) | (simp [*]; done)), H', ⟨by have := HK1.out; have := HJ10.out; have := HJ12.out; first | omega | exact Nat.le_refl _⟩, by repeat (first | exact Drawn0.refl _ | apply Drawn0.step)⟩
                                    · rw [if_neg c28] at H
                                      have c28b0 : decide (65 ≤ (bt a1 (ji21))) = false := decide_eq_false c28
                                      clear c28
                                      have H' := Aside0.mk H
                                      clear H
                                      have p24 : 0 ≤ ((ji21) : Int) := of_decide_eq_true (by first | (with_reducible assumption) | assumption)
                                      have q24 : (ji21) < (a1.size : Int) := of_decide_eq_true (by first | (with_reducible assumption) | assumption)
                                      have hx24 := bt_at a1 (ji21)
                                      replace p24 := eq_true p24
                                      replace q24 := eq_true q24
                                      have p27 : 0 ≤ ((ji21) : Int) := of_decide_eq_true (by first | (with_reducible assumption) | assumption)
                                      have q27 : (ji21) < (a1.size : Int) := of_decide_eq_true (by first | (with_reducible assumption) | assumption)
                                      have hx27 := bt_at a1 (ji21)
                                      replace p27 := eq_true p27
                                      replace q27 := eq_true q27
                                      go_wp2
                                      repeat (go_quiet (fail); try go_wp2)
                                      go_meet
                                      case rel => exact ⟨_, (!false), (by first | rfl | (simp; done) | (simp [*]; done) | (simp [isEmpty_bne]; done)), H', ⟨by have := HK1.out; have := HJ10.out; have := HJ12.out; first | omega | exact Nat.le_refl _⟩, by repeat (first | exact Drawn0.refl _ | apply Drawn0.step)⟩
                                  · replace c26 := Bool.eq_false_iff.mpr c26
                                    subst c26
                                    have H1 : (glossatorref4_FuzzyAlignmentScore.j3 kj12 a0 a1 l2 x7_10 x8_1 (rd l2 x8_1) false) = some r := by rw [if_neg (show ¬ (false = true) by decide)] at H; exact H
                                    clear H
                                    have H := H1
                                    clear H1
                                    have H' := Aside0.mk H
                                    clear H
                                    have p24 : 0 ≤ ((ji21) : Int) := of_decide_eq_true (by first | (with_reducible assumption) | assumption)
                                    have q24 : (ji21) < (a1.size : Int) := of_decide_eq_true (by first | (with_reducible assumption) | assumption)
                                    have hx24 := bt_at a1 (ji21)
                                    replace p24 := eq_true p24
                                    replace q24 := eq_true q24
                                    go_wp2
                                    repeat (go_quiet (fail); try go_wp2)
                                    go_meet
                                    case rel => exact ⟨_, (false), (by first | rfl | (simp; done) | (simp [*]; done) | (simp [isEmpty_bne]; done)), H', ⟨by have := HK1.out; have := HJ10.out; have := HJ12.out; first | omega | exact Nat.le_refl _⟩, by repeat (first | exact Drawn0.refl _ | apply Drawn0.step)⟩
                              · rw [if_neg c23] at H
                                exact absurd H (by simp)
                            · rw [if_neg c22] at H
                              exact absurd H (by simp)
                        case rest =>
                          clear HC19
                          try clear c1
                          try clear p1
                          try clear q1
                          try clear hx1
                          try clear c2
                          try clear p2
                          try clear q2
                          try clear hx2
                          try clear c4
                          try clear c4b0
                          try clear c5
                          try clear c5b0
                          try clear c6
                          try clear c6b0
                          try clear p6
                          try clear p7
                          try clear q7
                          try clear hx7
                          try clear c8
                          try clear c8b0
                          try clear c9
                          try clear c9b0
                          try clear c10
                          try clear p10
                          try clear q10
                          try clear hx10
                          try clear c12
                          try clear c12b0
                          try clear c12b1
                          try clear c14
                          try clear c14b0
                          try clear c15
                          try clear c15b0
                          try clear p16
                          try clear q16
                          try clear hx16
                          try clear c17
                          try clear c17b0
                          try clear p17
                          try clear q17
                          try clear hx17
                          try clear p18
                          try clear q18
                          try clear hx18
                          try clear c20
                          try clear c20b0
                          try clear c20b1
                          try clear c22
                          try clear c22b0
                          try clear c23
                          try clear c23b0
                          try clear p24
                          try clear q24
                          try clear hx24
                          try clear c25
                          try clear c25b0
                          try clear c25b1
                          try clear c26
                          try clear p27
                          try clear q27
                          try clear hx27
                          try clear c28
                          try clear c28b0
                          try clear p29
                          try clear q29
                          try clear hx29
                          try clear hx176_0
                          try clear p1
                          try clear p10
                          try clear p16
                          try clear p17
                          try clear p176
                          try clear p18
                          try clear p2
                          try clear p24
                          try clear p27
                          try clear p29
                          try clear p6
                          try clear p7
                          try clear q1
                          try clear q10
                          try clear q16
                          try clear q17
                          try clear q176
                          try clear q18
                          try clear q24
                          try clear q27
                          try clear q29
                          try clear q7
                          obtain ⟨kq, x68_18, rfl, HA, HJ18, ⟨mc18, rfl⟩⟩ := hcut
                          cases kq with
                          | zero => exact absurd HA.out (by simp [glossatorref4_FuzzyAlignmentScore.j3])
                          | succ kj18 =>
                            have H := HA.out
                            clear HA
                            simp only [glossatorref4_FuzzyAlignmentScore.j3] at H
                            by_cases c30 : x68_18 = true
                            · subst c30
                              have H1 : (if x8_1 > 0 then (if 0 ≤ (wrap64 (x8_1 - 1)) then (if (wrap64 (x8_1 - 1)) < (l2.length : Int) then (if (rd l2 x8_1) = (wrap64 ((rd l2 (wrap64 (x8_1 - 1))) + 1)) then (glossatorref4_FuzzyAlignmentScore.l0 kj18 a0 a1 l2 (wrap64 ((wrap64 (x7_10 + 4)) + 3)) (wrap64 (x8_1 + 1))) else (glossatorref4_FuzzyAlignmentScore.l0 kj18 a0 a1 l2 (wrap64 (x7_10 + 4)) (wrap64 (x8_1 + 1)))) else (none)) else (none)) else (glossatorref4_FuzzyAlignmentScore.l0 kj18 a0 a1 l2 (wrap64 (x7_10 + 4)) (wrap64 (x8_1 + 1)))) = some r := by rw [if_pos rfl] at H; exact H
                              clear H
                              have H := H1
                              clear H1
                              by_cases c31 : x8_1 > 0
                              · rw [if_pos c31] at H
                                have c31b0 : decide (0 < x8_1) = true := decide_eq_true c31
                                clear c31
                                obtain ⟨ji32, hji32⟩ : ∃ j_ : Int, (wrap64 (x8_1 - 1)) = j_ := ⟨_, rfl⟩
                                replace H : (if 0 ≤ (ji32) then (if (ji32) < (l2.length : Int) then (if (rd l2 x8_1) = (wrap64 ((rd l2 (ji32)) + 1)) then (glossatorref4_FuzzyAlignmentScore.l0 kj18 a0 a1 l2 (wrap64 ((wrap64 (x7_10 + 4)) + 3)) (wrap64 (x8_1 + 1))) else (glossatorref4_FuzzyAlignmentScore.l0 kj18 a0 a1 l2 (wrap64 (x7_10 + 4)) (wrap64 (x8_1 + 1)))) else (none)) else (none)) = some r := by first | (rw [hji32] at H; exact H) | (simp only [hji32] at H ⊢; exact H)
                                have hji32w : (IntKind.i64.wrap (x8_1 - 1)) = ji32 := (i64_w _).trans hji32
                                by_cases c33 : 0 ≤ (ji32)
                                · rw [if_pos c33] at H
                                  have c33b0 : decide (0 ≤ (ji32)) = true := decide_eq_true c33
                                  clear c33
                                  by_cases c34 : (ji32) < (l2.length : Int)
                                  · rw [if_pos c34] at H
                                    have c34b0 : decide ((ji32) < (l2.length : Int)) = true := decide_eq_true c34
                                    clear c34
                                    by_cases c35 : (rd l2 x8_1) = (wrap64 ((rd l2 (ji32)) + 1))
                                    · rw [if_pos c35] at H
                                      have c35b0 : ((rd l2 x8_1) == (wrap64 ((rd l2 (ji32)) + 1))) = true := beq_iff_eq.mpr c35
                                      have c35b1 : ((rd l2 x8_1) != (wrap64 ((rd l2 (ji32)) + 1))) = false := bne_eq_false_iff_eq.mpr c35
                                      clear c35
                                      have H' := Aside0.mk H
                                      clear H
                                      have p177 : 0 ≤ ((ji32) : Int) := of_decide_eq_true (by first | (with_reducible assumption) | assumption)
                                      have q177 : (ji32) < (l2.length : Int) := of_decide_eq_true (by first | (with_reducible assumption) | assumption)
                                      obtain ⟨ad177, e177, hx177_0⟩ := Kd.at_int HR2.out (ji32) p177 q177
                                      obtain rfl : ad176 = ad177 := (by injection e177)
                                      replace p177 := eq_true p177
                                      replace q177 := eq_true q177
                                      go_wp2
                                      repeat (go_quiet (fail); try go_wp2)
                                      go_roundg kj18
                                      case measure => have := HK1.out; have := HJ10.out; have := HJ12.out; have := HJ18.out; omega
                                      case rel => exact ⟨(wrap64 ((wrap64 (x7_10 + 4)) + 3)), (wrap64 (x8_1 + 1)), (by first | rfl | (simp; done) | (simp [*]; done) | (simp [isEmpty_bne]; done)), (by first | rfl | (simp; done) | (simp [*]; done) | (simp [isEmpty_bne]; done)), H', ⟨by have := HK1.out; have := HJ10.out; have := HJ12.out; have := HJ18.out; omega⟩, by repeat (first | exact Drawn0.refl _ | apply Drawn0.step)⟩
                                    · rw [if_neg c35] at H
                                      have c35b0 : ((rd l2 x8_1) == (wrap64 ((rd l2 (ji32)) + 1))) = false := beq_eq_false_iff_ne.mpr c35
                                      have c35b1 : ((rd l2 x8_1) != (wrap64 ((rd l2 (ji32)) + 1))) = true := bne_iff_ne.mpr c35
                                      have H' := Aside0.mk H
                                      clear H
                                      have p177 : 0 ≤ ((ji32) : Int) := of_decide_eq_true (by first | (with_reducible assumption) | assumption)
                                      have q177 : (ji32) < (l2.length : Int) := of_decide_eq_true (by first | (with_reducible assumption) | assumption)
                                      obtain ⟨ad177, e177, hx177_0⟩ := Kd.at_int HR2.out (ji32) p177 q177
                                      obtain rfl : ad176 = ad177 := (by injection e177)
                                      replace p177 := eq_true p177
                                      replace q177 := eq_true q177
                                      go_wp2
                                      repeat (go_quiet (fail); try go_wp2)
                                      go_roundg kj18
                                      case measure => have := HK1.out; have := HJ10.out; have := HJ12.out; have := HJ18.out; omega
                                      case rel => exact ⟨(wrap64 (x7_10 + 4)), (wrap64 (x8_1 + 1)), (by first | rfl | (simp; done) | (simp [*]; done) | (simp [isEmpty_bne]; done)), (by first | rfl | (simp; done) | (simp [*]; done) | (simp [isEmpty_bne]; done)), H', ⟨by have := HK1.out; have := HJ10.out; have := HJ12.out; have := HJ18.out; omega⟩, by repeat (first | exact Drawn0.refl _ | apply Drawn0.step)⟩
                                  · rw [if_neg c34] at H
                                    exact absurd H (by simp)
                                · rw [if_neg c33] at H
                                  exact absurd H (by simp)
                              · rw [if_neg c31] at H
                                have c31b0 : decide (0 < x8_1) = false := decide_eq_false c31
                                clear c31
                                have H' := Aside0.mk H
                                clear H
                                go_wp2
                                repeat (go_quiet (fail); try go_wp2)
                                go_roundg kj18
                                case measure => have := HK1.out; have := HJ10.out; have := HJ12.out; have := HJ18.out; omega
                                case rel => exact ⟨(wrap64 (x7_10 + 4)), (wrap64 (x8_1 + 1)), (by first | rfl | (simp; done) | (simp [*]; done) | (simp [isEmpty_bne]; done)), (by first | rfl | (simp; done) | (simp [*]; done) | (simp [isEmpty_bne]; done)), H', ⟨by have := HK1.out; have := HJ10.out; have := HJ12.out; have := HJ18.out; omega⟩, by repeat (first | exact Drawn0.refl _ | apply Drawn0.step)⟩
                            · replace c30 := Bool.eq_false_iff.mpr c30
                              subst c30
                              have H1 : (if x8_1 > 0 then (if 0 ≤ (wrap64 (x8_1 - 1)) then (if (wrap64 (x8_1 - 1)) < (l2.length : Int) then (if (rd l2 x8_1) = (wrap64 ((rd l2 (wrap64 (x8_1 - 1))) + 1)) then (glossatorref4_FuzzyAlignmentScore.l0 kj18 a0 a1 l2 (wrap64 (x7_10 + 3)) (wrap64 (x8_1 + 1))) else (glossatorref4_FuzzyAlignmentScore.l0 kj18 a0 a1 l2 x7_10 (wrap64 (x8_1 + 1)))) else (none)) else (none)) else (glossatorref4_FuzzyAlignmentScore.l0 kj18 a0 a1 l2 x7_10 (wrap64 (x8_1 + 1)))) = some r := by rw [if_neg (show ¬ (false = true) by decide)] at H; exact H
                              clear H
                              have H := H1
                              clear H1
                              by_cases c36 : x8_1 > 0
                              · rw [if_pos c36] at H
                                have c36b0 : decide (0 < x8_1) = true := decide_eq_true c36
                                clear c36
                                obtain ⟨ji37, hji37⟩ : ∃ j_ : Int, (wrap64 (x8_1 - 1)) = j_ := ⟨_, rfl⟩
                                replace H : (if 0 ≤ (ji37) then (if (ji37) < (l2.length : Int) then (if (rd l2 x8_1) = (wrap64 ((rd l2 (ji37)) + 1)) then (glossatorref4_FuzzyAlignmentScore.l0 kj18 a0 a1 l2 (wrap64 (x7_10 + 3)) (wrap64 (x8_1 + 1))) else (glossatorref4_FuzzyAlignmentScore.l0 kj18 a0 a1 l2 x7_10 (wrap64 (x8_1 + 1)))) else (none)) else (none)) = some r := by first | (rw [hji37] at H; exact H) | (simp only [hji37] at H ⊢; exact H)
                                have hji37w : (IntKind.i64.wrap (x8_1 - 1)) = ji37 := (i64_w _).trans hji37
                                by_cases c38 : 0 ≤ (ji37)
                                · rw [if_pos c38] at H
                                  have c38b0 : decide (0 ≤ (ji37)) = true := decide_eq_true c38
                                  clear c38
                                  by_cases c39 : (ji37) < (l2.length : Int)
                                  · rw [if_pos c39] at H
                                    have c39b0 : decide ((ji37) < (l2.length : Int)) = true := decide_eq_true c39
                                    clear c39
                                    by_cases c40 : (rd l2 x8_1) = (wrap64 ((rd l2 (ji37)) + 1))
                                    · rw [if_pos c40] at H
                                      have c40b0 : ((rd l2 x8_1) == (wrap64 ((rd l2 (ji37)) + 1))) = true := beq_iff_eq.mpr c40
                                      have c40b1 : ((rd l2 x8_1) != (wrap64 ((rd l2 (ji37)) + 1))) = false := bne_eq_false_iff_eq.mpr c40
                                      clear c40
                                      have H' := Aside0.mk H
                                      clear H
                                      have p178 : 0 ≤ ((ji37) : Int) := of_decide_eq_true (by first | (with_reducible assumption) | assumption)
                                      have q178 : (ji37) < (l2.length : Int) := of_decide_eq_true (by first | (with_reducible assumption) | assumption)
                                      obtain ⟨ad178, e178, hx178_0⟩ := Kd.at_int HR2.out (ji37) p178 q178
                                      obtain rfl : ad176 = ad178 := (by injection e178)
                                      replace p178 := eq_true p178
                                      replace q178 := eq_true q178
                                      go_wp2
                                      repeat (go_quiet (fail); try go_wp2)
                                      go_roundg kj18
                                      case measure => have := HK1.out; have := HJ10.out; have := HJ12.out; have := HJ18.out; omega
                                      case rel => exact ⟨(wrap64 (x7_10 + 3)), (wrap64 (x8_1 + 1)), (by first | rfl | (simp; done) | (simp [*]; done) | (simp [isEmpty_bne]; done)), (by first | rfl | (simp; done) | (simp [*]; done) | (simp [isEmpty_bne]; done)), H', ⟨by have := HK1.out; have := HJ10.out; have := HJ12.out; have := HJ18.out; omega⟩, by repeat (first | exact Drawn0.refl _ | apply Drawn0.step)⟩
                                    · rw [if_neg c40] at H
                                      have c40b0 : ((rd l2 x8_1) == (wrap64 ((rd l2 (ji37)) + 1))) = false := beq_eq_false_iff_ne.mpr c40
                                      have c40b1 : ((rd l2 x8_1) != (wrap64 ((rd l2 (ji37)) + 1))) = true := bne_iff_ne.mpr c40
                                      have H' := Aside0.mk H
                                      clear H
                                      have p178 : 0 ≤ ((ji37) : Int) := of_decide_eq_true (by first | (with_reducible assumption) | assumption)
                                      have q178 : (ji37) < (l2.length : Int) := of_decide_eq_true (by first | (with_reducible assumption) | assumption)
                                      obtain ⟨ad178, e178, hx178_0⟩ := Kd.at_int HR2.out (ji37) p178 q178
                                      obtain rfl : ad176 = ad178 := (by injection e178)
                                      replace p178 := eq_true p178
                                      replace q178 := eq_true q178
                                      go_wp2
                                      repeat (go_quiet (fail); try go_wp2)
                                      go_roundg kj18
                                      case measure => have := HK1.out; have := HJ10.out; have := HJ12.out; have := HJ18.out; omega
                                      case rel => exact ⟨(x7_10), (wrap64 (x8_1 + 1)), (by first | rfl | (simp; done) | (simp [*]; done) | (simp [isEmpty_bne]; done)), (by first | rfl | (simp; done) | (simp [*]; done) | (simp [isEmpty_bne]; done)), H', ⟨by have := HK1.out; have := HJ10.out; have := HJ12.out; have := HJ18.out; omega⟩, by repeat (first | exact Drawn0.refl _ | apply Drawn0.step)⟩
                                  · rw [if_neg c39] at H
                                    exact absurd H (by simp)
                                · rw [if_neg c38] at H
                                  exact absurd H (by simp)
                              · rw [if_neg c36] at H
                                have c36b0 : decide (0 < x8_1) = false := decide_eq_false c36
                                clear c36
                                have H' := Aside0.mk H
                                clear H
                                go_wp2
                                repeat (go_quiet (fail); try go_wp2)
                                go_roundg kj18
                                case measure => have := HK1.out; have := HJ10.out; have := HJ12.out; have := HJ18.out; omega
                                case rel => exact ⟨(x7_10), (wrap64 (x8_1 + 1)), (by first | rfl | (simp; done) | (simp [*]; done) | (simp [isEmpty_bne]; done)), (by first | rfl | (simp; done) | (simp [*]; done) | (simp [isEmpty_bne]; done)), H', ⟨by have := HK1.out; have := HJ10.out; have := HJ12.out; have := HJ18.out; omega⟩, by repeat (first | exact Drawn0.refl _ | apply Drawn0.step)⟩
              · rw [if_neg c9] at H
                exact absurd H (by simp)
            · rw [if_neg c8] at H
              exact absurd H (by simp)
          · rw [if_neg c6] at H
            exact absurd H (by simp)
        · rw [if_neg c5] at H
          exact absurd H (by simp)
      · rw [if_neg c4] at H
        have c4b0 : decide (x8_1 < (l2.length : Int)) = false := decide_eq_false c4
        clear c4
        obtain rfl := Option.some.inj H
        go_wp2
        repeat (go_quiet (fail); try go_wp2)
        go_ret
        exact ⟨by first | rfl | (simp; done) | (simp [*]; done), by repeat (first | exact Drawn0.refl _ | apply Drawn0.step)⟩

end Go.Proofs.Ytpkdgdhfhgelbaa.QFuzzyScoreEqualsReference
