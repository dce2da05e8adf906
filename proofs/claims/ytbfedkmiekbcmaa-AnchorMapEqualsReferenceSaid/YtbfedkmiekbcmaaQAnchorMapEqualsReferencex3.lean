-- Written by gen.py (this repo's wip/), which runs the kit's print.py with more arms. Lean checks it.
import Derived.Test.YtbfedkmiekbcmaaQAnchorMapEqualsReferencex0
namespace Go.Proofs.Ytbfedkmiekbcmaa.QAnchorMapEqualsReference
open Go.RowKit Go.Proofs.YtbfedkmiekbcmaaW.PrintWords Go.Proofs.YtbfedkmiekbcmaaW.PrintLast Go.Proofs.YtbfedkmiekbcmaaW.PrintMore
attribute [local go_sem] max2_int min2_int max_two min_two max_three min_three max_four min_four   -- for this text's walks alone
set_option linter.unusedVariables false
set_option linter.unusedSimpArgs false

private theorem isEmpty_bne {α : Type} [BEq α] (l : List α) : (l != []) = !l.isEmpty := by cases l <;> rfl

/-! ### glossatorref4_ValidateOrder: function 34 -/
def glossatorref4_ValidateOrder.l0 : Nat → List (S137) → Int → Option (Int)
  | 0, _, _ => none
  | k + 1, x0, x3 => if x3 < (x0.length : Int) then (if 0 ≤ x3 then (if ((rd_T137 x0 x3).f0) < 0 then (some 3) else (if ((rd_T137 x0 x3).f1) < ((rd_T137 x0 x3).f0) then (some 3) else (if x3 > 0 then (if 0 ≤ (wrap64 (x3 - 1)) then (if (wrap64 (x3 - 1)) < (x0.length : Int) then (if ((rd_T137 x0 x3).f0) ≤ ((rd_T137 x0 (wrap64 (x3 - 1))).f1) then (some 3) else (glossatorref4_ValidateOrder.l0 k x0 (wrap64 (x3 + 1)))) else (none)) else (none)) else (glossatorref4_ValidateOrder.l0 k x0 (wrap64 (x3 + 1)))))) else (none)) else (some 0)
def glossatorref4_ValidateOrder.f (k : Nat) (l0 : List (S137)) : Option (Int) := if (l0.length : Int) > 50 then (some 2) else (glossatorref4_ValidateOrder.l0 k l0 0)
theorem glossatorref4_ValidateOrder.mono_l : ∀ k, (∀ y0 y1, LeO (glossatorref4_ValidateOrder.l0 k y0 y1) (glossatorref4_ValidateOrder.l0 (k + 1) y0 y1))
  | 0 => fun _ _ r h => by simp [glossatorref4_ValidateOrder.l0] at h
  | k + 1 => by
    have ih0 := glossatorref4_ValidateOrder.mono_l k
    · intro y0 y1
      unfold glossatorref4_ValidateOrder.l0
      repeat' first
      | (with_reducible exact ih0 _ _)
      | (with_reducible exact LeO.refl _)
      | (with_reducible exact LeO.none _)
      | (with_reducible refine LeO.ite ?_ ?_)
      | (with_reducible refine LeO.bind ?_ (fun _ => ?_))
      | exact ih0 _ _
      | exact LeO.none _
      | refine LeO.ite ?_ ?_
      | refine LeO.bind ?_ (fun _ => ?_)
theorem glossatorref4_ValidateOrder.mono : ∀ a0 k, LeO (glossatorref4_ValidateOrder.f k a0) (glossatorref4_ValidateOrder.f (k + 1) a0) := by
  intro a0 k
  have ih0 := glossatorref4_ValidateOrder.mono_l k
  unfold glossatorref4_ValidateOrder.f
  repeat' first
      | (with_reducible exact ih0 _ _)
      | (with_reducible exact LeO.refl _)
      | (with_reducible exact LeO.none _)
      | (with_reducible refine LeO.ite ?_ ?_)
      | (with_reducible refine LeO.bind ?_ (fun _ => ?_))
      | exact ih0 _ _
      | exact LeO.none _
      | refine LeO.ite ?_ ?_
      | refine LeO.bind ?_ (fun _ => ?_)
set_option maxHeartbeats 8000000 in
set_option maxRecDepth 100000 in
theorem glossatorref4_ValidateOrder.calls (k : Nat) (A0 : Option Addr) (c0 : Nat) (l0 : List (S137)) (r : Int) (w : World) (hr0 : Kd.C k137 w A0 l0.length l0) (hc0 : l0.length ≤ c0) (h : glossatorref4_ValidateOrder.f k l0 = some r) :
    Calls Try.prog 34 #[.slice A0 l0.length c0] w fun e w' => e = .returned (.int .i64 r) ∧ Drawn0 w w' := by
  have HR0 := Aside0.mk hr0
  have HC0 := Aside0.mk hc0
  clear hr0 hc0
  have H : (if (l0.length : Int) > 50 then (some 2) else (glossatorref4_ValidateOrder.l0 k l0 0)) = some r := h
  clear h
  by_cases c2 : (l0.length : Int) > 50
  · rw [if_pos c2] at H
    have c2b0 : decide (50 < (l0.length : Int)) = true := decide_eq_true c2
    have c2b1 : decide (50 < l0.length) = true := decide_eq_true (by omega)
    clear c2
    obtain rfl := Option.some.inj H
    go_enter Try.func34, Try.ntmps34
    go_wp2
    repeat (go_quiet (fail); try go_wp2)
    go_ret
    exact ⟨by first | rfl | (simp; done) | (simp [*]; done), by repeat (first | exact Drawn0.refl _ | apply Drawn0.step)⟩
  · rw [if_neg c2] at H
    have c2b0 : decide (50 < (l0.length : Int)) = false := decide_eq_false c2
    have c2b1 : decide (50 < l0.length) = false := decide_eq_false (by omega)
    clear c2
    have H' := Aside0.mk H
    clear H
    go_enter Try.func34, Try.ntmps34
    go_wp2
    repeat (go_quiet (fail); try go_wp2)
    go_loopg [3] k (fun kq v3 w' => ∃ (x3_1 : Int), v3 = .int .i64 x3_1 ∧ Aside0 (glossatorref4_ValidateOrder.l0 kq l0 x3_1 = some r) ∧ Aside0 (kq ≤ k) ∧ Drawn0 w w')
    case atStart => exact ⟨(0), (by first | rfl | (simp; done) | (simp [*]; done) | (simp [isEmpty_bne]; done)), H', ⟨Nat.le_refl _⟩, by repeat (first | exact Drawn0.refl _ | apply Drawn0.step)⟩
    case round =>
      clear H'
      try clear c2
      try clear c2b0
      try clear c2b1
      try clear p2
      obtain ⟨x3_1, rfl, HA, HK1, ⟨m1, rfl⟩⟩ := hrel
      cases gk with
      | zero => exact absurd HA.out (by simp [glossatorref4_ValidateOrder.l0])
      | succ k1 =>
        have H := HA.out
        clear HA
        simp only [glossatorref4_ValidateOrder.l0] at H
        by_cases c3 : x3_1 < (l0.length : Int)
        · rw [if_pos c3] at H
          have c3b0 : decide (x3_1 < (l0.length : Int)) = true := decide_eq_true c3
          clear c3
          by_cases c4 : 0 ≤ x3_1
          · rw [if_pos c4] at H
            have c4b0 : decide (0 ≤ x3_1) = true := decide_eq_true c4
            clear c4
            by_cases c5 : ((rd_T137 l0 x3_1).f0) < 0
            · rw [if_pos c5] at H
              have c5b0 : decide (((rd_T137 l0 x3_1).f0) < 0) = true := decide_eq_true c5
              clear c5
              obtain rfl := Option.some.inj H
              have p144 : 0 ≤ (x3_1 : Int) := of_decide_eq_true (by first | (with_reducible assumption) | assumption)
              have q144 : x3_1 < (l0.length : Int) := of_decide_eq_true (by first | (with_reducible assumption) | assumption)
              obtain ⟨ad144, e144, hx144_0, hx144_1, hx144_2⟩ := at_T137 HR0.out x3_1 p144 q144
              cases e144
              replace p144 := eq_true p144
              replace q144 := eq_true q144
              go_wp2
              repeat (go_quiet (fail); try go_wp2)
              go_ret
              exact ⟨by first | rfl | (simp; done) | (simp [*]; done), by repeat (first | exact Drawn0.refl _ | apply Drawn0.step)⟩
            · rw [if_neg c5] at H
              have c5b0 : decide (((rd_T137 l0 x3_1).f0) < 0) = false := decide_eq_false c5
              clear c5
              by_cases c6 : ((rd_T137 l0 x3_1).f1) < ((rd_T137 l0 x3_1).f0)
              · rw [if_pos c6] at H
                have c6b0 : decide (((rd_T137 l0 x3_1).f1) < ((rd_T137 l0 x3_1).f0)) = true := decide_eq_true c6
                clear c6
                obtain rfl := Option.some.inj H
                have p144 : 0 ≤ (x3_1 : Int) := of_decide_eq_true (by first | (with_reducible assumption) | assumption)
                have q144 : x3_1 < (l0.length : Int) := of_decide_eq_true (by first | (with_reducible assumption) | assumption)
                obtain ⟨ad144, e144, hx144_0, hx144_1, hx144_2⟩ := at_T137 HR0.out x3_1 p144 q144
                cases e144
                replace p144 := eq_true p144
                replace q144 := eq_true q144
                have p145 : 0 ≤ (x3_1 : Int) := of_decide_eq_true (by first | (with_reducible assumption) | assumption)
                have q145 : x3_1 < (l0.length : Int) := of_decide_eq_true (by first | (with_reducible assumption) | assumption)
                obtain ⟨ad145, e145, hx145_0, hx145_1, hx145_2⟩ := at_T137 HR0.out x3_1 p145 q145
                obtain rfl : ad144 = ad145 := (by injection e145)
                replace p145 := eq_true p145
                replace q145 := eq_true q145
                have p146 : 0 ≤ (x3_1 : Int) := of_decide_eq_true (by first | (with_reducible assumption) | assumption)
                have q146 : x3_1 < (l0.length : Int) := of_decide_eq_true (by first | (with_reducible assumption) | assumption)
                obtain ⟨ad146, e146, hx146_0, hx146_1, hx146_2⟩ := at_T137 HR0.out x3_1 p146 q146
                obtain rfl : ad144 = ad146 := (by injection e146)
                replace p146 := eq_true p146
                replace q146 := eq_true q146
                go_wp2
                repeat (go_quiet (fail); try go_wp2)
                go_ret
                exact ⟨by first | rfl | (simp; done) | (simp [*]; done), by repeat (first | exact Drawn0.refl _ | apply Drawn0.step)⟩
              · rw [if_neg c6] at H
                have c6b0 : decide (((rd_T137 l0 x3_1).f1) < ((rd_T137 l0 x3_1).f0)) = false := decide_eq_false c6
                clear c6
                by_cases c7 : x3_1 > 0
                · rw [if_pos c7] at H
                  have c7b0 : decide (0 < x3_1) = true := decide_eq_true c7
                  clear c7
                  obtain ⟨ji8, hji8⟩ : ∃ j_ : Int, (wrap64 (x3_1 - 1)) = j_ := ⟨_, rfl⟩
                  replace H : (if 0 ≤ (ji8) then (if (ji8) < (l0.length : Int) then (if ((rd_T137 l0 x3_1).f0) ≤ ((rd_T137 l0 (ji8)).f1) then (some 3) else (glossatorref4_ValidateOrder.l0 k1 l0 (wrap64 (x3_1 + 1)))) else (none)) else (none)) = some r := by first | (rw [hji8] at H; exact H) | (simp only [hji8] at H ⊢; exact H)
                  have hji8w : (IntKind.i64.wrap (x3_1 - 1)) = ji8 := (i64_w _).trans hji8
                  by_cases c9 : 0 ≤ (ji8)
                  · rw [if_pos c9] at H
                    have c9b0 : decide (0 ≤ (ji8)) = true := decide_eq_true c9
                    clear c9
                    by_cases c10 : (ji8) < (l0.length : Int)
                    · rw [if_pos c10] at H
                      have c10b0 : decide ((ji8) < (l0.length : Int)) = true := decide_eq_true c10
                      clear c10
                      by_cases c11 : ((rd_T137 l0 x3_1).f0) ≤ ((rd_T137 l0 (ji8)).f1)
                      · rw [if_pos c11] at H
                        have c11b0 : decide (((rd_T137 l0 x3_1).f0) ≤ ((rd_T137 l0 (ji8)).f1)) = true := decide_eq_true c11
                        clear c11
                        obtain rfl := Option.some.inj H
                        have p144 : 0 ≤ (x3_1 : Int) := of_decide_eq_true (by first | (with_reducible assumption) | assumption)
                        have q144 : x3_1 < (l0.length : Int) := of_decide_eq_true (by first | (with_reducible assumption) | assumption)
                        obtain ⟨ad144, e144, hx144_0, hx144_1, hx144_2⟩ := at_T137 HR0.out x3_1 p144 q144
                        cases e144
                        replace p144 := eq_true p144
                        replace q144 := eq_true q144
                        have p145 : 0 ≤ (x3_1 : Int) := of_decide_eq_true (by first | (with_reducible assumption) | assumption)
                        have q145 : x3_1 < (l0.length : Int) := of_decide_eq_true (by first | (with_reducible assumption) | assumption)
                        obtain ⟨ad145, e145, hx145_0, hx145_1, hx145_2⟩ := at_T137 HR0.out x3_1 p145 q145
                        obtain rfl : ad144 = ad145 := (by injection e145)
                        replace p145 := eq_true p145
                        replace q145 := eq_true q145
                        have p146 : 0 ≤ (x3_1 : Int) := of_decide_eq_true (by first | (with_reducible assumption) | assumption)
                        have q146 : x3_1 < (l0.length : Int) := of_decide_eq_true (by first | (with_reducible assumption) | assumption)
                        obtain ⟨ad146, e146, hx146_0, hx146_1, hx146_2⟩ := at_T137 HR0.out x3_1 p146 q146
                        obtain rfl : ad144 = ad146 := (by injection e146)
                        replace p146 := eq_true p146
                        replace q146 := eq_true q146
                        have p147 : 0 ≤ (x3_1 : Int) := of_decide_eq_true (by first | (with_reducible assumption) | assumption)
                        have q147 : x3_1 < (l0.length : Int) := of_decide_eq_true (by first | (with_reducible assumption) | assumption)
                        obtain ⟨ad147, e147, hx147_0, hx147_1, hx147_2⟩ := at_T137 HR0.out x3_1 p147 q147
                        obtain rfl : ad144 = ad147 := (by injection e147)
                        replace p147 := eq_true p147
                        replace q147 := eq_true q147
                        have p148 : 0 ≤ ((ji8) : Int) := of_decide_eq_true (by first | (with_reducible assumption) | assumption)
                        have q148 : (ji8) < (l0.length : Int) := of_decide_eq_true (by first | (with_reducible assumption) | assumption)
                        obtain ⟨ad148, e148, hx148_0, hx148_1, hx148_2⟩ := at_T137 HR0.out (ji8) p148 q148
                        obtain rfl : ad144 = ad148 := (by injection e148)
                        replace p148 := eq_true p148
                        replace q148 := eq_true q148
                        go_wp2
                        repeat (go_quiet (fail); try go_wp2)
                        go_ret
                        exact ⟨by first | rfl | (simp; done) | (simp only [← hji8] <;> (first | rfl | simp)) | (simp [*]; done), by repeat (first | exact Drawn0.refl _ | apply Drawn0.step)⟩
                      · rw [if_neg c11] at H
                        have c11b0 : decide (((rd_T137 l0 x3_1).f0) ≤ ((rd_T137 l0 (ji8)).f1)) = false := decide_eq_false c11
                        clear c11
                        have H' := Aside0.mk H
                        clear H
                        have p144 : 0 ≤ (x3_1 : Int) := of_decide_eq_true (by first | (with_reducible assumption) | assumption)
                        have q144 : x3_1 < (l0.length : Int) := of_decide_eq_true (by first | (with_reducible assumption) | assumption)
                        obtain ⟨ad144, e144, hx144_0, hx144_1, hx144_2⟩ := at_T137 HR0.out x3_1 p144 q144
                        cases e144
                        replace p144 := eq_true p144
                        replace q144 := eq_true q144
                        have p145 : 0 ≤ (x3_1 : Int) := of_decide_eq_true (by first | (with_reducible assumption) | assumption)
                        have q145 : x3_1 < (l0.length : Int) := of_decide_eq_true (by first | (with_reducible assumption) | assumption)
                        obtain ⟨ad145, e145, hx145_0, hx145_1, hx145_2⟩ := at_T137 HR0.out x3_1 p145 q145
                        obtain rfl : ad144 = ad145 := (by injection e145)
                        replace p145 := eq_true p145
                        replace q145 := eq_true q145
                        have p146 : 0 ≤ (x3_1 : Int) := of_decide_eq_true (by first | (with_reducible assumption) | assumption)
                        have q146 : x3_1 < (l0.length : Int) := of_decide_eq_true (by first | (with_reducible assumption) | assumption)
                        obtain ⟨ad146, e146, hx146_0, hx146_1, hx146_2⟩ := at_T137 HR0.out x3_1 p146 q146
                        obtain rfl : ad144 = ad146 := (by injection e146)
                        replace p146 := eq_true p146
                        replace q146 := eq_true q146
                        have p147 : 0 ≤ (x3_1 : Int) := of_decide_eq_true (by first | (with_reducible assumption) | assumption)
                        have q147 : x3_1 < (l0.length : Int) := of_decide_eq_true (by first | (with_reducible assumption) | assumption)
                        obtain ⟨ad147, e147, hx147_0, hx147_1, hx147_2⟩ := at_T137 HR0.out x3_1 p147 q147
                        obtain rfl : ad144 = ad147 := (by injection e147)
                        replace p147 := eq_true p147
                        replace q147 := eq_true q147
                        have p148 : 0 ≤ ((ji8) : Int) := of_decide_eq_true (by first | (with_reducible assumption) | assumption)
                        have q148 : (ji8) < (l0.length : Int) := of_decide_eq_true (by first | (with_reducible assumption) | assumption)
                        obtain ⟨ad148, e148, hx148_0, hx148_1, hx148_2⟩ := at_T137 HR0.out (ji8) p148 q148
                        obtain rfl : ad144 = ad148 := (by injection e148)
                        replace p148 := eq_true p148
                        replace q148 := eq_true q148
                        go_wp2
                        repeat (go_quiet (fail); try go_wp2)
                        go_roundg k1
                        case measure => have := HK1.out; omega
                        case rel => exact ⟨(wrap64 (x3_1 + 1)), (by first | rfl | (simp; done) | (simp [*]; done) | (simp [isEmpty_bne]; done)), H', ⟨by have := HK1.out; omega⟩, by repeat (first | exact Drawn0.refl _ | apply Drawn0.step)⟩
                    · rw [if_neg c10] at H
                      exact absurd H (by simp)
                  · rw [if_neg c9] at H
                    exact absurd H (by simp)
                · rw [if_neg c7] at H
                  have c7b0 : decide (0 < x3_1) = false := decide_eq_false c7
                  clear c7
                  have H' := Aside0.mk H
                  clear H
                  have p144 : 0 ≤ (x3_1 : Int) := of_decide_eq_true (by first | (with_reducible assumption) | assumption)
                  have q144 : x3_1 < (l0.length : Int) := of_decide_eq_true (by first | (with_reducible assumption) | assumption)
                  obtain ⟨ad144, e144, hx144_0, hx144_1, hx144_2⟩ := at_T137 HR0.out x3_1 p144 q144
                  cases e144
                  replace p144 := eq_true p144
                  replace q144 := eq_true q144
                  have p145 : 0 ≤ (x3_1 : Int) := of_decide_eq_true (by first | (with_reducible assumption) | assumption)
                  have q145 : x3_1 < (l0.length : Int) := of_decide_eq_true (by first | (with_reducible assumption) | assumption)
                  obtain ⟨ad145, e145, hx145_0, hx145_1, hx145_2⟩ := at_T137 HR0.out x3_1 p145 q145
                  obtain rfl : ad144 = ad145 := (by injection e145)
                  replace p145 := eq_true p145
                  replace q145 := eq_true q145
                  have p146 : 0 ≤ (x3_1 : Int) := of_decide_eq_true (by first | (with_reducible assumption) | assumption)
                  have q146 : x3_1 < (l0.length : Int) := of_decide_eq_true (by first | (with_reducible assumption) | assumption)
                  obtain ⟨ad146, e146, hx146_0, hx146_1, hx146_2⟩ := at_T137 HR0.out x3_1 p146 q146
                  obtain rfl : ad144 = ad146 := (by injection e146)
                  replace p146 := eq_true p146
                  replace q146 := eq_true q146
                  go_wp2
                  repeat (go_quiet (fail); try go_wp2)
                  go_roundg k1
                  case measure => have := HK1.out; omega
                  case rel => exact ⟨(wrap64 (x3_1 + 1)), (by first | rfl | (simp; done) | (simp [*]; done) | (simp [isEmpty_bne]; done)), H', ⟨by have := HK1.out; omega⟩, by repeat (first | exact Drawn0.refl _ | apply Drawn0.step)⟩
          · rw [if_neg c4] at H
            exact absurd H (by simp)
        · rw [if_neg c3] at H
          have c3b0 : decide (x3_1 < (l0.length : Int)) = false := decide_eq_false c3
          clear c3
          obtain rfl := Option.some.inj H
          go_wp2
          repeat (go_quiet (fail); try go_wp2)
          go_ret
          exact ⟨by first | rfl | (simp; done) | (simp [*]; done), by repeat (first | exact Drawn0.refl _ | apply Drawn0.step)⟩

/-! ### glossatorref4_MapOffset: function 35 -/
mutual
def glossatorref4_MapOffset.l0 : Nat → List (S137) → Int → Bool → Int → Int → Option (Int)
  | 0, _, _, _, _, _ => none
  | k + 1, x0, x1, x2, x7, x8 => if x8 ≥ 0 then (if 0 ≤ x8 then (if x8 < (x0.length : Int) then (if x1 > ((rd_T137 x0 x8).f0) then (glossatorref4_MapOffset.j1 k x0 x1 x2 x7 x8 (decide (x1 < ((rd_T137 x0 x8).f1))) ((rd_T137 x0 x8).f0) ((rd_T137 x0 x8).f1) ((rd_T137 x0 x8).f2)) else (glossatorref4_MapOffset.j1 k x0 x1 x2 x7 x8 false ((rd_T137 x0 x8).f0) ((rd_T137 x0 x8).f1) ((rd_T137 x0 x8).f2))) else (none)) else (none)) else (some x7)
def glossatorref4_MapOffset.j1 : Nat → List (S137) → Int → Bool → Int → Int → Bool → Int → Int → ByteArray → Option (Int)
  | 0, _, _, _, _, _, _, _, _, _ => none
  | k + 1, x0, x1, x2, x7, x8, x31, x151000, x151001, x151002 => if x31 = true then (if x2 = true then (glossatorref4_MapOffset.l0 k x0 x1 x2 (wrap64 (x151000 + (x151002.size : Int))) (wrap64 (x8 - 1))) else (glossatorref4_MapOffset.l0 k x0 x1 x2 x151000 (wrap64 (x8 - 1)))) else (if x1 > x151001 then (glossatorref4_MapOffset.l0 k x0 x1 x2 (wrap64 ((wrap64 ((wrap64 (x7 + (x151002.size : Int))) + x151000)) - x151001)) (wrap64 (x8 - 1))) else (if x1 = x151001 then (if x1 > x151000 then (glossatorref4_MapOffset.l0 k x0 x1 x2 (wrap64 ((wrap64 ((wrap64 (x7 + (x151002.size : Int))) + x151000)) - x151001)) (wrap64 (x8 - 1))) else (if x2 = true then (glossatorref4_MapOffset.l0 k x0 x1 x2 (wrap64 ((wrap64 ((wrap64 (x7 + (x151002.size : Int))) + x151000)) - x151001)) (wrap64 (x8 - 1))) else (glossatorref4_MapOffset.l0 k x0 x1 x2 x7 (wrap64 (x8 - 1))))) else (glossatorref4_MapOffset.l0 k x0 x1 x2 x7 (wrap64 (x8 - 1)))))
end
def glossatorref4_MapOffset.f (k : Nat) (l0 : List (S137)) (a1 : Int) (a2 : Bool) : Option (Int) := glossatorref4_MapOffset.l0 k l0 a1 a2 a1 (wrap64 ((l0.length : Int) - 1))
theorem glossatorref4_MapOffset.mono_l : ∀ k, (∀ y0 y1 y2 y3 y4, LeO (glossatorref4_MapOffset.l0 k y0 y1 y2 y3 y4) (glossatorref4_MapOffset.l0 (k + 1) y0 y1 y2 y3 y4)) ∧ (∀ y0 y1 y2 y3 y4 y5 y6 y7 y8, LeO (glossatorref4_MapOffset.j1 k y0 y1 y2 y3 y4 y5 y6 y7 y8) (glossatorref4_MapOffset.j1 (k + 1) y0 y1 y2 y3 y4 y5 y6 y7 y8))
  | 0 => ⟨fun _ _ _ _ _ r h => by simp [glossatorref4_MapOffset.l0] at h, fun _ _ _ _ _ _ _ _ _ r h => by simp [glossatorref4_MapOffset.j1] at h⟩
  | k + 1 => by
    obtain ⟨ih0, ih1⟩ := glossatorref4_MapOffset.mono_l k
    refine ⟨?_, ?_⟩
    · intro y0 y1 y2 y3 y4
      unfold glossatorref4_MapOffset.l0
      repeat' first
      | (with_reducible exact ih0 _ _ _ _ _)
      | (with_reducible exact ih1 _ _ _ _ _ _ _ _ _)
      | (with_reducible exact LeO.refl _)
      | (with_reducible exact LeO.none _)
      | (with_reducible refine LeO.ite ?_ ?_)
      | (with_reducible refine LeO.bind ?_ (fun _ => ?_))
      | exact ih0 _ _ _ _ _
      | exact ih1 _ _ _ _ _ _ _ _ _
      | exact LeO.none _
      | refine LeO.ite ?_ ?_
      | refine LeO.bind ?_ (fun _ => ?_)
    · intro y0 y1 y2 y3 y4 y5 y6 y7 y8
      unfold glossatorref4_MapOffset.j1
      repeat' first
      | (with_reducible exact ih0 _ _ _ _ _)
      | (with_reducible exact ih1 _ _ _ _ _ _ _ _ _)
      | (with_reducible exact LeO.refl _)
      | (with_reducible exact LeO.none _)
      | (with_reducible refine LeO.ite ?_ ?_)
      | (with_reducible refine LeO.bind ?_ (fun _ => ?_))
      | exact ih0 _ _ _ _ _
      | exact ih1 _ _ _ _ _ _ _ _ _
      | exact LeO.none _
      | refine LeO.ite ?_ ?_
      | refine LeO.bind ?_ (fun _ => ?_)
theorem glossatorref4_MapOffset.mono : ∀ a0 a1 a2 k, LeO (glossatorref4_MapOffset.f k a0 a1 a2) (glossatorref4_MapOffset.f (k + 1) a0 a1 a2) := by
  intro a0 a1 a2 k
  obtain ⟨ih0, ih1⟩ := glossatorref4_MapOffset.mono_l k
  unfold glossatorref4_MapOffset.f
  repeat' first
      | (with_reducible exact ih0 _ _ _ _ _)
      | (with_reducible exact ih1 _ _ _ _ _ _ _ _ _)
      | (with_reducible exact LeO.refl _)
      | (with_reducible exact LeO.none _)
      | (with_reducible refine LeO.ite ?_ ?_)
      | (with_reducible refine LeO.bind ?_ (fun _ => ?_))
      | exact ih0 _ _ _ _ _
      | exact ih1 _ _ _ _ _ _ _ _ _
      | exact LeO.none _
      | refine LeO.ite ?_ ?_
      | refine LeO.bind ?_ (fun _ => ?_)
set_option maxHeartbeats 8000000 in
set_option maxRecDepth 100000 in
theorem glossatorref4_MapOffset.calls (k : Nat) (A0 : Option Addr) (c0 : Nat) (l0 : List (S137)) (a1 : Int) (a2 : Bool) (r : Int) (w : World) (hr0 : Kd.C k137 w A0 l0.length l0) (hc0 : l0.length ≤ c0) (h : glossatorref4_MapOffset.f k l0 a1 a2 = some r) :
    Calls Try.prog 35 #[.slice A0 l0.length c0, .int .i64 a1, .bool a2] w fun e w' => e = .returned (.int .i64 r) ∧ Below w.heap.size w w' := by
  have hu137 := Try.underlying137
  have HR0 := Aside0.mk hr0
  have HC0 := Aside0.mk hc0
  clear hr0 hc0
  have HB := Aside0.mk (Below.refl w.heap.size w)
  have H : (glossatorref4_MapOffset.l0 k l0 a1 a2 a1 (wrap64 ((l0.length : Int) - 1))) = some r := h
  clear h
  have H' := Aside0.mk H
  clear H
  go_enter Try.func35, Try.ntmps35
  go_wp2
  go_loopg [7, 8] k (fun kq v7 v8 w' => ∃ (x7_1 : Int) (x8_1 : Int), v7 = .int .i64 x7_1 ∧ v8 = .int .i64 x8_1 ∧ Aside0 (glossatorref4_MapOffset.l0 kq l0 a1 a2 x7_1 x8_1 = some r) ∧ Aside0 (kq ≤ k) ∧ Aside0 (Below w.heap.size w w'))
  case atStart => exact ⟨(a1), (wrap64 ((l0.length : Int) - 1)), (by first | rfl | (simp; done) | (simp [*]; done) | (simp [isEmpty_bne]; done)), (by first | rfl | (simp; done) | (simp [*]; done) | (simp [isEmpty_bne]; done)), H', ⟨Nat.le_refl _⟩, ⟨by repeat (first | (with_reducible first | exact HB.out | apply below_alloc | apply pw_below_drewN | apply below_drew1) | exact HB.out)⟩⟩
  case round =>
    clear H'
    try clear p2
    try clear c3
    obtain ⟨x7_1, x8_1, rfl, rfl, HA, HK1, HB⟩ := hrel
    cases gk with
    | zero => exact absurd HA.out (by simp [glossatorref4_MapOffset.l0])
    | succ k1 =>
      have H := HA.out
      clear HA
      simp only [glossatorref4_MapOffset.l0] at H
      by_cases c4 : x8_1 ≥ 0
      · rw [if_pos c4] at H
        have c4b0 : decide (0 ≤ x8_1) = true := decide_eq_true c4
        clear c4
        by_cases c5 : 0 ≤ x8_1
        · rw [if_pos c5] at H
          have c5b0 : decide (0 ≤ x8_1) = true := decide_eq_true c5
          clear c5
          by_cases c6 : x8_1 < (l0.length : Int)
          · rw [if_pos c6] at H
            have c6b0 : decide (x8_1 < (l0.length : Int)) = true := decide_eq_true c6
            clear c6
            have HC7 := Aside0.mk H
            clear H
            have p149 : 0 ≤ (x8_1 : Int) := of_decide_eq_true (by first | (with_reducible assumption) | assumption)
            have q149 : x8_1 < (l0.length : Int) := of_decide_eq_true (by first | (with_reducible assumption) | assumption)
            obtain ⟨ad149, e149, hx149_0, hx149_1, hx149_2⟩ := at_T137 HR0.out x8_1 p149 q149
            cases e149
            replace hx149_0 := (HB.out.cell (World.block_lt_of_cell? w _ hx149_0)).trans hx149_0
            replace hx149_1 := (HB.out.cell (World.block_lt_of_cell? w _ hx149_1)).trans hx149_1
            replace hx149_2 := (HB.out.cell (World.block_lt_of_cell? w _ hx149_2)).trans hx149_2
            replace p149 := eq_true p149
            replace q149 := eq_true q149
            go_upto_region 6 with (first | ((with_reducible refine gate_dst (N := 9) rfl ?_); refine box_event ?hg (N := 9) ?hd (cs := #[.int .i64 0, .int .i64 0, .string (⟨#[]⟩ : ByteArray)]) (t := 137) ?hr ?_; (case hd => rfl); (case hg => rfl); (case hr => first | (go_simp; done) | (go_simp; rfl)); intro gb150 hg w8 hbox hb; have n0_ := Aside0.mk (below_step (by repeat (first | (with_reducible first | exact HB.out | apply below_alloc | apply pw_below_drewN | apply below_drew1) | exact HB.out)) hb); have n1_ := Aside0.mk (hbox); have n2_ := Aside0.mk ((by rw [hg]; exact (below_size (by repeat (first | (with_reducible first | exact HB.out | apply below_alloc | apply pw_below_drewN | apply below_drew1) | exact HB.out))) : w.heap.size ≤ gb150)); have n3_ := Aside0.mk ((by rw [hg]; exact (below_size (by repeat (first | (with_reducible first | exact HB.out | apply below_alloc | apply pw_below_drewN | apply below_drew1) | exact HB.out))) : w.heap.size ≤ gb150)); clear HB; have HB := n0_; have BK150 := n1_; have GW150 := n2_; have GE150 := n3_; clear n0_ n1_ n2_ n3_; clear hb hbox hg; have hcz9_0 : w8.cell? ⟨gb150, 0, none⟩ = some (.int .i64 0) := (blk_cell BK150.out 0).trans rfl; have hcz9_1 : w8.cell? ⟨gb150, 1, none⟩ = some (.int .i64 0) := (blk_cell BK150.out 1).trans rfl; have hcz9_2 : w8.cell? ⟨gb150, 2, none⟩ = some (.string (⟨#[]⟩ : ByteArray)) := (blk_cell BK150.out 2).trans rfl; have hfz9_0 := blk_frozen BK150.out 0; have hfz9_1 := blk_frozen BK150.out 1; have hfz9_2 := blk_frozen BK150.out 2))
            (try simp only [Act.put, List.setIfInBounds_toArray, List.set_cons_zero, List.set_cons_succ])
            go_cut [31] (fun v31 wc => ∃ (kq : Nat) (x31_6 : Bool), v31 = .bool x31_6 ∧ Aside0 (glossatorref4_MapOffset.j1 kq l0 a1 a2 x7_1 x8_1 x31_6 ((rd_T137 l0 x8_1).f0) ((rd_T137 l0 x8_1).f1) ((rd_T137 l0 x8_1).f2) = some r) ∧ Aside0 (kq ≤ k1) ∧ Aside0 (wc.heap[gb150]? = some (.cells #[.int .i64 ((rd_T137 l0 x8_1).f0), .int .i64 ((rd_T137 l0 x8_1).f1), .string ((rd_T137 l0 x8_1).f2)] 137 (0, 0))) ∧ Aside0 (Below w.heap.size w wc))
            case first =>
              have H := HC7.out
              clear HC7
              by_cases c10 : a1 > ((rd_T137 l0 x8_1).f0)
              · rw [if_pos c10] at H
                have c10b0 : decide (((rd_T137 l0 x8_1).f0) < a1) = true := decide_eq_true c10
                clear c10
                (first | rw [c10b0] | (simp only [i64_w, i32_w]; rw [c10b0]) | skip)
                have H' := Aside0.mk H
                clear H
                have hcz11_0 : w8.cell? ⟨gb150, 0, none⟩ = some (.int .i64 0) := (blk_cell BK150.out 0).trans rfl
                have hcz11_1 : w8.cell? ⟨gb150, 1, none⟩ = some (.int .i64 0) := (blk_cell BK150.out 1).trans rfl
                have hcz11_2 : w8.cell? ⟨gb150, 2, none⟩ = some (.string (⟨#[]⟩ : ByteArray)) := (blk_cell BK150.out 2).trans rfl
                have hfz11_0 := blk_frozen BK150.out 0
                have hfz11_1 := blk_frozen BK150.out 1
                have hfz11_2 := blk_frozen BK150.out 2
                go_wp2
                go_meet
                case rel => exact ⟨_, (decide (a1 < ((rd_T137 l0 x8_1).f1))), (by first | rfl | (simp; done) | (simp [*]; done) | (simp [isEmpty_bne]; done)), H', ⟨by have := HK1.out; first | omega | exact Nat.le_refl _⟩, ⟨by (with_reducible repeat (first | refine blk_drewN ?_ _ | refine blk_drew ?_ | refine blk_alloc ?_ _)); refine blk_put (cs := #[.int .i64 ((rd_T137 l0 x8_1).f0), .int .i64 ((rd_T137 l0 x8_1).f1), .string (⟨#[]⟩ : ByteArray)]) ?_ 2 _ rfl; (with_reducible repeat (first | refine blk_drewN ?_ _ | refine blk_drew ?_ | refine blk_alloc ?_ _)); refine blk_put (cs := #[.int .i64 ((rd_T137 l0 x8_1).f0), .int .i64 0, .string (⟨#[]⟩ : ByteArray)]) ?_ 1 _ rfl; (with_reducible repeat (first | refine blk_drewN ?_ _ | refine blk_drew ?_ | refine blk_alloc ?_ _)); refine blk_put (cs := #[.int .i64 0, .int .i64 0, .string (⟨#[]⟩ : ByteArray)]) ?_ 0 _ rfl; (with_reducible repeat (first | refine blk_drewN ?_ _ | refine blk_drew ?_ | refine blk_alloc ?_ _)); exact BK150.out⟩, ⟨by repeat (first | (with_reducible first | exact HB.out | apply below_alloc | apply pw_below_drewN | apply below_drew1 | refine below_set ?_ GE150.out) | exact HB.out)⟩⟩
              · rw [if_neg c10] at H
                have c10b0 : decide (((rd_T137 l0 x8_1).f0) < a1) = false := decide_eq_false c10
                clear c10
                (first | rw [c10b0] | (simp only [i64_w, i32_w]; rw [c10b0]) | skip)
                have H' := Aside0.mk H
                clear H
                have hcz12_0 : w8.cell? ⟨gb150, 0, none⟩ = some (.int .i64 0) := (blk_cell BK150.out 0).trans rfl
                have hcz12_1 : w8.cell? ⟨gb150, 1, none⟩ = some (.int .i64 0) := (blk_cell BK150.out 1).trans rfl
                have hcz12_2 : w8.cell? ⟨gb150, 2, none⟩ = some (.string (⟨#[]⟩ : ByteArray)) := (blk_cell BK150.out 2).trans rfl
                have hfz12_0 := blk_frozen BK150.out 0
                have hfz12_1 := blk_frozen BK150.out 1
                have hfz12_2 := blk_frozen BK150.out 2
                go_wp2
                go_meet
                case rel => exact ⟨_, (false), (by first | rfl | (simp; done) | (simp [*]; done) | (simp [isEmpty_bne]; done)), H', ⟨by have := HK1.out; first | omega | exact Nat.le_refl _⟩, ⟨by (with_reducible repeat (first | refine blk_drewN ?_ _ | refine blk_drew ?_ | refine blk_alloc ?_ _)); refine blk_put (cs := #[.int .i64 ((rd_T137 l0 x8_1).f0), .int .i64 ((rd_T137 l0 x8_1).f1), .string (⟨#[]⟩ : ByteArray)]) ?_ 2 _ rfl; (with_reducible repeat (first | refine blk_drewN ?_ _ | refine blk_drew ?_ | refine blk_alloc ?_ _)); refine blk_put (cs := #[.int .i64 ((rd_T137 l0 x8_1).f0), .int .i64 0, .string (⟨#[]⟩ : ByteArray)]) ?_ 1 _ rfl; (with_reducible repeat (first | refine blk_drewN ?_ _ | refine blk_drew ?_ | refine blk_alloc ?_ _)); refine blk_put (cs := #[.int .i64 0, .int .i64 0, .string (⟨#[]⟩ : ByteArray)]) ?_ 0 _ rfl; (with_reducible repeat (first | refine blk_drewN ?_ _ | refine blk_drew ?_ | refine blk_alloc ?_ _)); exact BK150.out⟩, ⟨by repeat (first | (with_reducible first | exact HB.out | apply below_alloc | apply pw_below_drewN | apply below_drew1 | refine below_set ?_ GE150.out) | exact HB.out)⟩⟩
            case rest =>
              clear HC7
              try clear c1
              try clear p1
              try clear q1
              try clear hx1
              try clear p2
              try clear c3
              try clear c4
              try clear c4b0
              try clear c5
              try clear c5b0
              try clear c6
              try clear c6b0
              try clear p6
              try clear c10
              try clear c10b0
              try clear hcz11_0
              try clear hcz11_1
              try clear hcz11_2
              try clear hcz12_0
              try clear hcz12_1
              try clear hcz12_2
              try clear hcz9_0
              try clear hcz9_1
              try clear hcz9_2
              try clear hfz11_0
              try clear hfz11_1
              try clear hfz11_2
              try clear hfz12_0
              try clear hfz12_1
              try clear hfz12_2
              try clear hfz9_0
              try clear hfz9_1
              try clear hfz9_2
              try clear hx149_0
              try clear hx149_1
              try clear hx149_2
              try clear p149
              try clear p2
              try clear q149
              obtain ⟨kq, x31_6, rfl, HA, HJ6, BK150, HB⟩ := hcut
              cases kq with
              | zero => exact absurd HA.out (by simp [glossatorref4_MapOffset.j1])
              | succ kj6 =>
                have H := HA.out
                clear HA
                simp only [glossatorref4_MapOffset.j1] at H
                by_cases c13 : x31_6 = true
                · subst c13
                  have H1 : (if a2 = true then (glossatorref4_MapOffset.l0 kj6 l0 a1 a2 (wrap64 (((rd_T137 l0 x8_1).f0) + (((rd_T137 l0 x8_1).f2).size : Int))) (wrap64 (x8_1 - 1))) else (glossatorref4_MapOffset.l0 kj6 l0 a1 a2 ((rd_T137 l0 x8_1).f0) (wrap64 (x8_1 - 1)))) = some r := by rw [if_pos rfl] at H; exact H
                  clear H
                  have H := H1
                  clear H1
                  by_cases c14 : a2 = true
                  · subst c14
                    have H1 : (glossatorref4_MapOffset.l0 kj6 l0 a1 true (wrap64 (((rd_T137 l0 x8_1).f0) + (((rd_T137 l0 x8_1).f2).size : Int))) (wrap64 (x8_1 - 1))) = some r := by rw [if_pos rfl] at H; exact H
                    clear H
                    have H := H1
                    clear H1
                    have H' := Aside0.mk H
                    clear H
                    have hcz15_0 : wc.cell? ⟨gb150, 0, none⟩ = some (.int .i64 ((rd_T137 l0 x8_1).f0)) := (blk_cell BK150.out 0).trans rfl
                    have hcz15_1 : wc.cell? ⟨gb150, 1, none⟩ = some (.int .i64 ((rd_T137 l0 x8_1).f1)) := (blk_cell BK150.out 1).trans rfl
                    have hcz15_2 : wc.cell? ⟨gb150, 2, none⟩ = some (.string ((rd_T137 l0 x8_1).f2)) := (blk_cell BK150.out 2).trans rfl
                    have hfz15_0 := blk_frozen BK150.out 0
                    have hfz15_1 := blk_frozen BK150.out 1
                    have hfz15_2 := blk_frozen BK150.out 2
                    go_wp2
                    go_roundg kj6
                    case measure => have := HK1.out; have := HJ6.out; omega
                    case rel => exact ⟨(wrap64 (((rd_T137 l0 x8_1).f0) + (((rd_T137 l0 x8_1).f2).size : Int))), (wrap64 (x8_1 - 1)), (by first | rfl | (simp; done) | (simp [*]; done) | (simp [isEmpty_bne]; done)), (by first | rfl | (simp; done) | (simp [*]; done) | (simp [isEmpty_bne]; done)), H', ⟨by have := HK1.out; have := HJ6.out; omega⟩, ⟨by repeat (first | (with_reducible first | exact HB.out | apply below_alloc | apply pw_below_drewN | apply below_drew1 | refine below_set ?_ GE150.out) | exact HB.out)⟩⟩
                  · replace c14 := Bool.eq_false_iff.mpr c14
                    subst c14
                    have H1 : (glossatorref4_MapOffset.l0 kj6 l0 a1 false ((rd_T137 l0 x8_1).f0) (wrap64 (x8_1 - 1))) = some r := by rw [if_neg (show ¬ (false = true) by decide)] at H; exact H
                    clear H
                    have H := H1
                    clear H1
                    have H' := Aside0.mk H
                    clear H
                    have hcz16_0 : wc.cell? ⟨gb150, 0, none⟩ = some (.int .i64 ((rd_T137 l0 x8_1).f0)) := (blk_cell BK150.out 0).trans rfl
                    have hcz16_1 : wc.cell? ⟨gb150, 1, none⟩ = some (.int .i64 ((rd_T137 l0 x8_1).f1)) := (blk_cell BK150.out 1).trans rfl
                    have hcz16_2 : wc.cell? ⟨gb150, 2, none⟩ = some (.string ((rd_T137 l0 x8_1).f2)) := (blk_cell BK150.out 2).trans rfl
                    have hfz16_0 := blk_frozen BK150.out 0
                    have hfz16_1 := blk_frozen BK150.out 1
                    have hfz16_2 := blk_frozen BK150.out 2
                    go_wp2
                    go_roundg kj6
                    case measure => have := HK1.out; have := HJ6.out; omega
                    case rel => exact ⟨(((rd_T137 l0 x8_1).f0)), (wrap64 (x8_1 - 1)), (by first | rfl | (simp; done) | (simp [*]; done) | (simp [isEmpty_bne]; done)), (by first | rfl | (simp; done) | (simp [*]; done) | (simp [isEmpty_bne]; done)), H', ⟨by have := HK1.out; have := HJ6.out; omega⟩, ⟨by repeat (first | (with_reducible first | exact HB.out | apply below_alloc | apply pw_below_drewN | apply below_drew1 | refine below_set ?_ GE150.out) | exact HB.out)⟩⟩
                · replace c13 := Bool.eq_false_iff.mpr c13
                  subst c13
                  have H1 : (if a1 > ((rd_T137 l0 x8_1).f1) then (glossatorref4_MapOffset.l0 kj6 l0 a1 a2 (wrap64 ((wrap64 ((wrap64 (x7_1 + (((rd_T137 l0 x8_1).f2).size : Int))) + ((rd_T137 l0 x8_1).f0))) - ((rd_T137 l0 x8_1).f1))) (wrap64 (x8_1 - 1))) else (if a1 = ((rd_T137 l0 x8_1).f1) then (if a1 > ((rd_T137 l0 x8_1).f0) then (glossatorref4_MapOffset.l0 kj6 l0 a1 a2 (wrap64 ((wrap64 ((wrap64 (x7_1 + (((rd_T137 l0 x8_1).f2).size : Int))) + ((rd_T137 l0 x8_1).f0))) - ((rd_T137 l0 x8_1).f1))) (wrap64 (x8_1 - 1))) else (if a2 = true then (glossatorref4_MapOffset.l0 kj6 l0 a1 a2 (wrap64 ((wrap64 ((wrap64 (x7_1 + (((rd_T137 l0 x8_1).f2).size : Int))) + ((rd_T137 l0 x8_1).f0))) - ((rd_T137 l0 x8_1).f1))) (wrap64 (x8_1 - 1))) else (glossatorref4_MapOffset.l0 kj6 l0 a1 a2 x7_1 (wrap64 (x8_1 - 1))))) else (glossatorref4_MapOffset.l0 kj6 l0 a1 a2 x7_1 (wrap64 (x8_1 - 1))))) = some r := by rw [if_neg (show ¬ (false = true) by decide)] at H; exact H
                  clear H
                  have H := H1
                  clear H1
                  by_cases c17 : a1 > ((rd_T137 l0 x8_1).f1)
                  · rw [if_pos c17] at H
                    have c17b0 : decide (((rd_T137 l0 x8_1).f1) < a1) = true := decide_eq_true c17
                    clear c17
                    have H' := Aside0.mk H
                    clear H
                    have hcz18_0 : wc.cell? ⟨gb150, 0, none⟩ = some (.int .i64 ((rd_T137 l0 x8_1).f0)) := (blk_cell BK150.out 0).trans rfl
                    have hcz18_1 : wc.cell? ⟨gb150, 1, none⟩ = some (.int .i64 ((rd_T137 l0 x8_1).f1)) := (blk_cell BK150.out 1).trans rfl
                    have hcz18_2 : wc.cell? ⟨gb150, 2, none⟩ = some (.string ((rd_T137 l0 x8_1).f2)) := (blk_cell BK150.out 2).trans rfl
                    have hfz18_0 := blk_frozen BK150.out 0
                    have hfz18_1 := blk_frozen BK150.out 1
                    have hfz18_2 := blk_frozen BK150.out 2
                    go_wp2
                    go_roundg kj6
                    case measure => have := HK1.out; have := HJ6.out; omega
                    case rel => exact ⟨(wrap64 ((wrap64 ((wrap64 (x7_1 + (((rd_T137 l0 x8_1).f2).size : Int))) + ((rd_T137 l0 x8_1).f0))) - ((rd_T137 l0 x8_1).f1))), (wrap64 (x8_1 - 1)), (by first | rfl | (simp; done) | (simp [*]; done) | (simp [isEmpty_bne]; done)), (by first | rfl | (simp; done) | (simp [*]; done) | (simp [isEmpty_bne]; done)), H', ⟨by have := HK1.out; have := HJ6.out; omega⟩, ⟨by repeat (first | (with_reducible first | exact HB.out | apply below_alloc | apply pw_below_drewN | apply below_drew1 | refine below_set ?_ GE150.out) | exact HB.out)⟩⟩
                  · rw [if_neg c17] at H
                    have c17b0 : decide (((rd_T137 l0 x8_1).f1) < a1) = false := decide_eq_false c17
                    clear c17
                    by_cases c19 : a1 = ((rd_T137 l0 x8_1).f1)
                    · rw [if_pos c19] at H
                      have c19b0 : (a1 == ((rd_T137 l0 x8_1).f1)) = true := beq_iff_eq.mpr c19
                      have c19b1 : (a1 != ((rd_T137 l0 x8_1).f1)) = false := bne_eq_false_iff_eq.mpr c19
                      clear c19
                      by_cases c20 : a1 > ((rd_T137 l0 x8_1).f0)
                      · rw [if_pos c20] at H
                        have c20b0 : decide (((rd_T137 l0 x8_1).f0) < a1) = true := decide_eq_true c20
                        clear c20
                        have H' := Aside0.mk H
                        clear H
                        have hcz21_0 : wc.cell? ⟨gb150, 0, none⟩ = some (.int .i64 ((rd_T137 l0 x8_1).f0)) := (blk_cell BK150.out 0).trans rfl
                        have hcz21_1 : wc.cell? ⟨gb150, 1, none⟩ = some (.int .i64 ((rd_T137 l0 x8_1).f1)) := (blk_cell BK150.out 1).trans rfl
                        have hcz21_2 : wc.cell? ⟨gb150, 2, none⟩ = some (.string ((rd_T137 l0 x8_1).f2)) := (blk_cell BK150.out 2).trans rfl
                        have hfz21_0 := blk_frozen BK150.out 0
                        have hfz21_1 := blk_frozen BK150.out 1
                        have hfz21_2 := blk_frozen BK150.out 2
                        go_wp2
                        go_roundg kj6
                        case measure => have := HK1.out; have := HJ6.out; omega
                        case rel => exact ⟨(wrap64 ((wrap64 ((wrap64 (x7_1 + (((rd_T137 l0 x8_1).f2).size : Int))) + ((rd_T137 l0 x8_1).f0))) - ((rd_T137 l0 x8_1).f1))), (wrap64 (x8_1 - 1)), (by first | rfl | (simp; done) | (simp [*]; done) | (simp [isEmpty_bne]; done)), (by first | rfl | (simp; done) | (simp [*]; done) | (simp [isEmpty_bne]; done)), H', ⟨by have := HK1.out; have := HJ6.out; omega⟩, ⟨by repeat (first | (with_reducible first | exact HB.out | apply below_alloc | apply pw_below_drewN | apply below_drew1 | refine below_set ?_ GE150.out) | exact HB.out)⟩⟩
                      · rw [if_neg c20] at H
                        have c20b0 : decide (((rd_T137 l0 x8_1).f0) < a1) = false := decide_eq_false c20
                        clear c20
                        by_cases c22 : a2 = true
                        · subst c22
                          have H1 : (glossatorref4_MapOffset.l0 kj6 l0 a1 true (wrap64 ((wrap64 ((wrap64 (x7_1 + (((rd_T137 l0 x8_1).f2).size : Int))) + ((rd_T137 l0 x8_1).f0))) - ((rd_T137 l0 x8_1).f1))) (wrap64 (x8_1 - 1))) = some r := by rw [if_pos rfl] at H; exact H
                          clear H
                          have H := H1
                          clear H1
                          have H' := Aside0.mk H
                          clear H
                          have hcz23_0 : wc.cell? ⟨gb150, 0, none⟩ = some (.int .i64 ((rd_T137 l0 x8_1).f0)) := (blk_cell BK150.out 0).trans rfl
                          have hcz23_1 : wc.cell? ⟨gb150, 1, none⟩ = some (.int .i64 ((rd_T137 l0 x8_1).f1)) := (blk_cell BK150.out 1).trans rfl
                          have hcz23_2 : wc.cell? ⟨gb150, 2, none⟩ = some (.string ((rd_T137 l0 x8_1).f2)) := (blk_cell BK150.out 2).trans rfl
                          have hfz23_0 := blk_frozen BK150.out 0
                          have hfz23_1 := blk_frozen BK150.out 1
                          have hfz23_2 := blk_frozen BK150.out 2
                          go_wp2
                          go_roundg kj6
                          case measure => have := HK1.out; have := HJ6.out; omega
                          case rel => exact ⟨(wrap64 ((wrap64 ((wrap64 (x7_1 + (((rd_T137 l0 x8_1).f2).size : Int))) + ((rd_T137 l0 x8_1).f0))) - ((rd_T137 l0 x8_1).f1))), (wrap64 (x8_1 - 1)), (by first | rfl | (simp; done) | (simp [*]; done) | (simp [isEmpty_bne]; done)), (by first | rfl | (simp; done) | (simp [*]; done) | (simp [isEmpty_bne]; done)), H', ⟨by have := HK1.out; have := HJ6.out; omega⟩, ⟨by repeat (first | (with_reducible first | exact HB.out | apply below_alloc | apply pw_below_drewN | apply below_drew1 | refine below_set ?_ GE150.out) | exact HB.out)⟩⟩
                        · replace c22 := Bool.eq_false_iff.mpr c22
                          subst c22
                          have H1 : (glossatorref4_MapOffset.l0 kj6 l0 a1 false x7_1 (wrap64 (x8_1 - 1))) = some r := by rw [if_neg (show ¬ (false = true) by decide)] at H; exact H
                          clear H
                          have H := H1
                          clear H1
                          have H' := Aside0.mk H
                          clear H
                          have hcz24_0 : wc.cell? ⟨gb150, 0, none⟩ = some (.int .i64 ((rd_T137 l0 x8_1).f0)) := (blk_cell BK150.out 0).trans rfl
                          have hcz24_1 : wc.cell? ⟨gb150, 1, none⟩ = some (.int .i64 ((rd_T137 l0 x8_1).f1)) := (blk_cell BK150.out 1).trans rfl
                          have hcz24_2 : wc.cell? ⟨gb150, 2, none⟩ = some (.string ((rd_T137 l0 x8_1).f2)) := (blk_cell BK150.out 2).trans rfl
                          have hfz24_0 := blk_frozen BK150.out 0
                          have hfz24_1 := blk_frozen BK150.out 1
                          have hfz24_2 := blk_frozen BK150.out 2
                          go_wp2
                          go_roundg kj6
                          case measure => have := HK1.out; have := HJ6.out; omega
                          case rel => exact ⟨(x7_1), (wrap64 (x8_1 - 1)), (by first | rfl | (simp; done) | (simp [*]; done) | (simp [isEmpty_bne]; done)), (by first | rfl | (simp; done) | (simp [*]; done) | (simp [isEmpty_bne]; done)), H', ⟨by have := HK1.out; have := HJ6.out; omega⟩, ⟨by repeat (first | (with_reducible first | exact HB.out | apply below_alloc | apply pw_below_drewN | apply below_drew1 | refine below_set ?_ GE150.out) | exact HB.out)⟩⟩
                    · rw [if_neg c19] at H
                      have c19b0 : (a1 == ((rd_T137 l0 x8_1).f1)) = false := beq_eq_false_iff_ne.mpr c19
                      have c19b1 : (a1 != ((rd_T137 l0 x8_1).f1)) = true := bne_iff_ne.mpr c19
                      have H' := Aside0.mk H
                      clear H
                      have hcz25_0 : wc.cell? ⟨gb150, 0, none⟩ = some (.int .i64 ((rd_T137 l0 x8_1).f0)) := (blk_cell BK150.out 0).trans rfl
                      have hcz25_1 : wc.cell? ⟨gb150, 1, none⟩ = some (.int .i64 ((rd_T137 l0 x8_1).f1)) := (blk_cell BK150.out 1).trans rfl
                      have hcz25_2 : wc.cell? ⟨gb150, 2, none⟩ = some (.string ((rd_T137 l0 x8_1).f2)) := (blk_cell BK150.out 2).trans rfl
                      have hfz25_0 := blk_frozen BK150.out 0
                      have hfz25_1 := blk_frozen BK150.out 1
                      have hfz25_2 := blk_frozen BK150.out 2
                      go_wp2
                      go_roundg kj6
                      case measure => have := HK1.out; have := HJ6.out; omega
                      case rel => exact ⟨(x7_1), (wrap64 (x8_1 - 1)), (by first | rfl | (simp; done) | (simp [*]; done) | (simp [isEmpty_bne]; done)), (by first | rfl | (simp; done) | (simp [*]; done) | (simp [isEmpty_bne]; done)), H', ⟨by have := HK1.out; have := HJ6.out; omega⟩, ⟨by repeat (first | (with_reducible first | exact HB.out | apply below_alloc | apply pw_below_drewN | apply below_drew1 | refine below_set ?_ GE150.out) | exact HB.out)⟩⟩
          · rw [if_neg c6] at H
            exact absurd H (by simp)
        · rw [if_neg c5] at H
          exact absurd H (by simp)
      · rw [if_neg c4] at H
        have c4b0 : decide (0 ≤ x8_1) = false := decide_eq_false c4
        clear c4
        obtain rfl := Option.some.inj H
        go_wp2
        go_ret
        exact ⟨by first | rfl | (simp [errW_none, errW_some] <;> rfl) | (simp [*, errW_none, errW_some] <;> rfl), by repeat (first | (with_reducible first | exact HB.out | apply below_alloc | apply pw_below_drewN | apply below_drew1) | exact HB.out)⟩

end Go.Proofs.Ytbfedkmiekbcmaa.QAnchorMapEqualsReference
