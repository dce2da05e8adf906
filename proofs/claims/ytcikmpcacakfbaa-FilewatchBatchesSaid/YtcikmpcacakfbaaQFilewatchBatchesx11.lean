-- Written by gen.py (this repo's wip/), which runs the kit's print.py with more arms. Lean checks it.
import Derived.Test.YtcikmpcacakfbaaQFilewatchBatchesx0
import Derived.Test.YtcikmpcacakfbaaQFilewatchBatchesx2
import Derived.Test.YtcikmpcacakfbaaQFilewatchBatchesx3
import Derived.Test.YtcikmpcacakfbaaQFilewatchBatchesx4
import Derived.Test.YtcikmpcacakfbaaQFilewatchBatchesx5
import Derived.Test.YtcikmpcacakfbaaQFilewatchBatchesx6
import Derived.Test.YtcikmpcacakfbaaQFilewatchBatchesx7
import Derived.Test.YtcikmpcacakfbaaQFilewatchBatchesx8
import Derived.Test.YtcikmpcacakfbaaQFilewatchBatchesx10
namespace Go.Proofs.Ytcikmpcacakfbaa.QFilewatchBatches
open Go.RowKit Go.Proofs.YtcikmpcacakfbaaW.PrintWords Go.Proofs.YtcikmpcacakfbaaW.PrintLast Go.Proofs.YtcikmpcacakfbaaW.PrintMore
attribute [local go_sem] max2_int min2_int max_two min_two max_three min_three max_four min_four   -- for this text's walks alone
set_option linter.unusedVariables false
set_option linter.unusedSimpArgs false

private theorem isEmpty_bne {α : Type} [BEq α] (l : List α) : (l != []) = !l.isEmpty := by cases l <;> rfl

/-! ### glossatorlaw3_FilewatchBatches: function 5 -/
def glossatorlaw3_FilewatchBatches.j0 : Nat → List (S58) → List ByteArray → Int → Int → Bool → Option (Bool)
  | 0, _, _, _, _, _ => none
  | k + 1, x0, x2, x3, x4, x58 => if x58 = true then (some false) else ((glossatorlaw3_watchExample.f k).bind fun t216 => (if t216 = true then ((filewatch_Merge.f k x3 x4).bind fun t217 => ((glossatorref3_Merge.f x3 x4).bind fun t218 => (if t217 = t218 then ((filewatch_Apply.f x2 x0).bind fun t219 => ((glossatorref3_Files.f k x2 x0).bind fun t222 => ((glossatorref3_Equal_string.f k t219 t222).bind fun t225 => (if t225 = true then ((filewatch_Consistent.f x2 x0).bind fun t226 => ((glossatorref3_Consistent.f k x2 x0).bind fun t227 => (some (t226 == t227)))) else (some false))))) else (some false)))) else (some false)))
def glossatorlaw3_FilewatchBatches.f (k : Nat) (l0 : List (S58)) (a1 : Int) (l2 : List ByteArray) (a3 : Int) (a4 : Int) : Option (Bool) := (glossatorlaw3_watchExample.f k).bind fun t201 => (if t201 = true then (if 0 ≤ (mn (l0.length : Int) 40) then (if (mn (l0.length : Int) 40) ≤ (l0.length : Int) then ((some (l0.take ((mn (l0.length : Int) 40) : Int).toNat : List (S58))).bind fun y202 => (if 0 ≤ (mn (l2.length : Int) 10) then (if (mn (l2.length : Int) 10) ≤ (l2.length : Int) then ((filewatch_Batches.f k y202 a1).bind fun bt207 => ((glossatorref3_CheckEvents.f k y202 a1).bind fun t211 => (if bt207.2 = t211 then (if t211 = 0 then ((glossatorref3_Batches.f y202 a1).bind fun t212 => ((glossatorref3_EqualBatches.f k bt207.1 t212).bind fun t215 => (glossatorlaw3_FilewatchBatches.j0 k y202 (l2.take ((mn (l2.length : Int) 10) : Int).toNat) a3 a4 (!t215)))) else (if (bt207.1.length : Int) > 0 then (glossatorlaw3_FilewatchBatches.j0 k y202 (l2.take ((mn (l2.length : Int) 10) : Int).toNat) a3 a4 true) else (glossatorlaw3_FilewatchBatches.j0 k y202 (l2.take ((mn (l2.length : Int) 10) : Int).toNat) a3 a4 false))) else (glossatorlaw3_FilewatchBatches.j0 k y202 (l2.take ((mn (l2.length : Int) 10) : Int).toNat) a3 a4 true)))) else (none)) else (none))) else (none)) else (none)) else (some false))
theorem glossatorlaw3_FilewatchBatches.mono_l : ∀ k, (∀ y0 y1 y2 y3 y4, LeO (glossatorlaw3_FilewatchBatches.j0 k y0 y1 y2 y3 y4) (glossatorlaw3_FilewatchBatches.j0 (k + 1) y0 y1 y2 y3 y4))
  | 0 => fun _ _ _ _ _ r h => by simp [glossatorlaw3_FilewatchBatches.j0] at h
  | k + 1 => by
    have ih0 := glossatorlaw3_FilewatchBatches.mono_l k
    · intro y0 y1 y2 y3 y4
      unfold glossatorlaw3_FilewatchBatches.j0
      repeat' first
      | (with_reducible exact ih0 _ _ _ _ _)
      | (with_reducible exact filewatch_Batches.mono _ _ _)
      | (with_reducible exact filewatch_Merge.mono _ _ _)
      | (with_reducible exact glossatorlaw3_watchExample.mono _)
      | (with_reducible exact glossatorref3_CheckEvents.mono _ _ _)
      | (with_reducible exact glossatorref3_Consistent.mono _ _ _)
      | (with_reducible exact glossatorref3_EqualBatches.mono _ _ _)
      | (with_reducible exact glossatorref3_Equal_string.mono _ _ _)
      | (with_reducible exact glossatorref3_Files.mono _ _ _)
      | (with_reducible exact LeO.refl _)
      | (with_reducible exact LeO.none _)
      | (with_reducible refine LeO.ite ?_ ?_)
      | (with_reducible refine LeO.bind ?_ (fun _ => ?_))
      | exact ih0 _ _ _ _ _
      | exact filewatch_Batches.mono _ _ _
      | exact filewatch_Merge.mono _ _ _
      | exact glossatorlaw3_watchExample.mono _
      | exact glossatorref3_CheckEvents.mono _ _ _
      | exact glossatorref3_Consistent.mono _ _ _
      | exact glossatorref3_EqualBatches.mono _ _ _
      | exact glossatorref3_Equal_string.mono _ _ _
      | exact glossatorref3_Files.mono _ _ _
      | exact LeO.none _
      | refine LeO.ite ?_ ?_
      | refine LeO.bind ?_ (fun _ => ?_)
theorem glossatorlaw3_FilewatchBatches.mono : ∀ a0 a1 a2 a3 a4 k, LeO (glossatorlaw3_FilewatchBatches.f k a0 a1 a2 a3 a4) (glossatorlaw3_FilewatchBatches.f (k + 1) a0 a1 a2 a3 a4) := by
  intro a0 a1 a2 a3 a4 k
  have ih0 := glossatorlaw3_FilewatchBatches.mono_l k
  unfold glossatorlaw3_FilewatchBatches.f
  repeat' first
      | (with_reducible exact ih0 _ _ _ _ _)
      | (with_reducible exact filewatch_Batches.mono _ _ _)
      | (with_reducible exact filewatch_Merge.mono _ _ _)
      | (with_reducible exact glossatorlaw3_watchExample.mono _)
      | (with_reducible exact glossatorref3_CheckEvents.mono _ _ _)
      | (with_reducible exact glossatorref3_Consistent.mono _ _ _)
      | (with_reducible exact glossatorref3_EqualBatches.mono _ _ _)
      | (with_reducible exact glossatorref3_Equal_string.mono _ _ _)
      | (with_reducible exact glossatorref3_Files.mono _ _ _)
      | (with_reducible exact LeO.refl _)
      | (with_reducible exact LeO.none _)
      | (with_reducible refine LeO.ite ?_ ?_)
      | (with_reducible refine LeO.bind ?_ (fun _ => ?_))
      | exact ih0 _ _ _ _ _
      | exact filewatch_Batches.mono _ _ _
      | exact filewatch_Merge.mono _ _ _
      | exact glossatorlaw3_watchExample.mono _
      | exact glossatorref3_CheckEvents.mono _ _ _
      | exact glossatorref3_Consistent.mono _ _ _
      | exact glossatorref3_EqualBatches.mono _ _ _
      | exact glossatorref3_Equal_string.mono _ _ _
      | exact glossatorref3_Files.mono _ _ _
      | exact LeO.none _
      | refine LeO.ite ?_ ?_
      | refine LeO.bind ?_ (fun _ => ?_)
set_option maxHeartbeats 8000000 in
set_option maxRecDepth 100000 in
theorem glossatorlaw3_FilewatchBatches.calls (k : Nat) (A0 : Option Addr) (c0 : Nat) (l0 : List (S58)) (a1 : Int) (A2 : Option Addr) (c2 : Nat) (l2 : List ByteArray) (a3 : Int) (a4 : Int) (r : Bool) (w : World) (hr0 : Kd.C k58 w A0 l0.length l0) (hc0 : l0.length ≤ c0) (hr2 : Kd.C Kd.string w A2 l2.length l2) (hc2 : l2.length ≤ c2) (h : glossatorlaw3_FilewatchBatches.f k l0 a1 l2 a3 a4 = some r) :
    Calls Try.prog 5 #[.slice A0 l0.length c0, .int .i64 a1, .slice A2 l2.length c2, .int .i64 a3, .int .i64 a4] w fun e w' => e = .returned (.bool r) ∧ Below w.heap.size w w' := by
  have HR0 := Aside0.mk hr0
  have HC0 := Aside0.mk hc0
  clear hr0 hc0
  have HR2 := Aside0.mk hr2
  have HC2 := Aside0.mk hc2
  clear hr2 hc2
  have HB := Aside0.mk (Below.refl w.heap.size w)
  have H : ((glossatorlaw3_watchExample.f k).bind fun t201 => (if t201 = true then (if 0 ≤ (mn (l0.length : Int) 40) then (if (mn (l0.length : Int) 40) ≤ (l0.length : Int) then ((some (l0.take ((mn (l0.length : Int) 40) : Int).toNat : List (S58))).bind fun y202 => (if 0 ≤ (mn (l2.length : Int) 10) then (if (mn (l2.length : Int) 10) ≤ (l2.length : Int) then ((filewatch_Batches.f k y202 a1).bind fun bt207 => ((glossatorref3_CheckEvents.f k y202 a1).bind fun t211 => (if bt207.2 = t211 then (if t211 = 0 then ((glossatorref3_Batches.f y202 a1).bind fun t212 => ((glossatorref3_EqualBatches.f k bt207.1 t212).bind fun t215 => (glossatorlaw3_FilewatchBatches.j0 k y202 (l2.take ((mn (l2.length : Int) 10) : Int).toNat) a3 a4 (!t215)))) else (if (bt207.1.length : Int) > 0 then (glossatorlaw3_FilewatchBatches.j0 k y202 (l2.take ((mn (l2.length : Int) 10) : Int).toNat) a3 a4 true) else (glossatorlaw3_FilewatchBatches.j0 k y202 (l2.take ((mn (l2.length : Int) 10) : Int).toNat) a3 a4 false))) else (glossatorlaw3_FilewatchBatches.j0 k y202 (l2.take ((mn (l2.length : Int) 10) : Int).toNat) a3 a4 true)))) else (none)) else (none))) else (none)) else (none)) else (some false))) = some r := h
  clear h
  replace H := Option.bind_eq_some_iff.mp H
  obtain ⟨t201, A60, H⟩ := H
  replace H : (if t201 = true then (if 0 ≤ (mn (l0.length : Int) 40) then (if (mn (l0.length : Int) 40) ≤ (l0.length : Int) then ((some (l0.take ((mn (l0.length : Int) 40) : Int).toNat : List (S58))).bind fun y202 => (if 0 ≤ (mn (l2.length : Int) 10) then (if (mn (l2.length : Int) 10) ≤ (l2.length : Int) then ((filewatch_Batches.f k y202 a1).bind fun bt207 => ((glossatorref3_CheckEvents.f k y202 a1).bind fun t211 => (if bt207.2 = t211 then (if t211 = 0 then ((glossatorref3_Batches.f y202 a1).bind fun t212 => ((glossatorref3_EqualBatches.f k bt207.1 t212).bind fun t215 => (glossatorlaw3_FilewatchBatches.j0 k y202 (l2.take ((mn (l2.length : Int) 10) : Int).toNat) a3 a4 (!t215)))) else (if (bt207.1.length : Int) > 0 then (glossatorlaw3_FilewatchBatches.j0 k y202 (l2.take ((mn (l2.length : Int) 10) : Int).toNat) a3 a4 true) else (glossatorlaw3_FilewatchBatches.j0 k y202 (l2.take ((mn (l2.length : Int) 10) : Int).toNat) a3 a4 false))) else (glossatorlaw3_FilewatchBatches.j0 k y202 (l2.take ((mn (l2.length : Int) 10) : Int).toNat) a3 a4 true)))) else (none)) else (none))) else (none)) else (none)) else (some false)) = some r := H
  have A6 := Aside0.mk A60
  clear A60
  by_cases c7 : t201 = true
  · subst c7
    have H1 : (if 0 ≤ (mn (l0.length : Int) 40) then (if (mn (l0.length : Int) 40) ≤ (l0.length : Int) then ((some (l0.take ((mn (l0.length : Int) 40) : Int).toNat : List (S58))).bind fun y202 => (if 0 ≤ (mn (l2.length : Int) 10) then (if (mn (l2.length : Int) 10) ≤ (l2.length : Int) then ((filewatch_Batches.f k y202 a1).bind fun bt207 => ((glossatorref3_CheckEvents.f k y202 a1).bind fun t211 => (if bt207.2 = t211 then (if t211 = 0 then ((glossatorref3_Batches.f y202 a1).bind fun t212 => ((glossatorref3_EqualBatches.f k bt207.1 t212).bind fun t215 => (glossatorlaw3_FilewatchBatches.j0 k y202 (l2.take ((mn (l2.length : Int) 10) : Int).toNat) a3 a4 (!t215)))) else (if (bt207.1.length : Int) > 0 then (glossatorlaw3_FilewatchBatches.j0 k y202 (l2.take ((mn (l2.length : Int) 10) : Int).toNat) a3 a4 true) else (glossatorlaw3_FilewatchBatches.j0 k y202 (l2.take ((mn (l2.length : Int) 10) : Int).toNat) a3 a4 false))) else (glossatorlaw3_FilewatchBatches.j0 k y202 (l2.take ((mn (l2.length : Int) 10) : Int).toNat) a3 a4 true)))) else (none)) else (none))) else (none)) else (none)) = some r := by rw [if_pos rfl] at H; exact H
    clear H
    have H := H1
    clear H1
    obtain ⟨ji8, hji8⟩ : ∃ j_ : Int, (mn (l0.length : Int) 40) = j_ := ⟨_, rfl⟩
    replace H : (if 0 ≤ (ji8) then (if (ji8) ≤ (l0.length : Int) then ((some (l0.take ((ji8) : Int).toNat : List (S58))).bind fun y202 => (if 0 ≤ (mn (l2.length : Int) 10) then (if (mn (l2.length : Int) 10) ≤ (l2.length : Int) then ((filewatch_Batches.f k y202 a1).bind fun bt207 => ((glossatorref3_CheckEvents.f k y202 a1).bind fun t211 => (if bt207.2 = t211 then (if t211 = 0 then ((glossatorref3_Batches.f y202 a1).bind fun t212 => ((glossatorref3_EqualBatches.f k bt207.1 t212).bind fun t215 => (glossatorlaw3_FilewatchBatches.j0 k y202 (l2.take ((mn (l2.length : Int) 10) : Int).toNat) a3 a4 (!t215)))) else (if (bt207.1.length : Int) > 0 then (glossatorlaw3_FilewatchBatches.j0 k y202 (l2.take ((mn (l2.length : Int) 10) : Int).toNat) a3 a4 true) else (glossatorlaw3_FilewatchBatches.j0 k y202 (l2.take ((mn (l2.length : Int) 10) : Int).toNat) a3 a4 false))) else (glossatorlaw3_FilewatchBatches.j0 k y202 (l2.take ((mn (l2.length : Int) 10) : Int).toNat) a3 a4 true)))) else (none)) else (none))) else (none)) else (none)) = some r := by first | (rw [hji8] at H; exact H) | (simp only [hji8] at H ⊢; exact H)
    (try rw [hji8] at A6)
    (try (have hji8h : ji8 ≤ 40 := by (rw [← hji8]; unfold mn; (repeat' split) <;> omega)))
    (try (have hji8g : ji8 ≤ 64 := by omega))
    (try (have hji8l : 0 ≤ ji8 := by (rw [← hji8]; unfold mn; (repeat' split) <;> omega)))
    (try (have hji8m : 0 ≤ ji8 := by omega))
    have hji8_ : (if 40 < (l0.length : Int) then 40 else (l0.length : Int)) = ji8 := hji8
    by_cases c9 : 0 ≤ (ji8)
    · rw [if_pos c9] at H
      have c9b0 := eq_true c9
      have c9b1 : decide (0 ≤ (ji8)) = true := decide_eq_true c9
      clear c9
      by_cases c10 : (ji8) ≤ (l0.length : Int)
      · rw [if_pos c10] at H
        have c10b0 := eq_true c10
        have c10b1 : decide ((ji8) ≤ (l0.length : Int)) = true := decide_eq_true c10
        clear c10
        obtain ⟨y202, hy202⟩ : ∃ y_ : List (S58), y_ = (l0.take ((ji8) : Int).toNat) := ⟨_, rfl⟩
        replace H : (if 0 ≤ (mn (l2.length : Int) 10) then (if (mn (l2.length : Int) 10) ≤ (l2.length : Int) then ((filewatch_Batches.f k y202 a1).bind fun bt207 => ((glossatorref3_CheckEvents.f k y202 a1).bind fun t211 => (if bt207.2 = t211 then (if t211 = 0 then ((glossatorref3_Batches.f y202 a1).bind fun t212 => ((glossatorref3_EqualBatches.f k bt207.1 t212).bind fun t215 => (glossatorlaw3_FilewatchBatches.j0 k y202 (l2.take ((mn (l2.length : Int) 10) : Int).toNat) a3 a4 (!t215)))) else (if (bt207.1.length : Int) > 0 then (glossatorlaw3_FilewatchBatches.j0 k y202 (l2.take ((mn (l2.length : Int) 10) : Int).toNat) a3 a4 true) else (glossatorlaw3_FilewatchBatches.j0 k y202 (l2.take ((mn (l2.length : Int) 10) : Int).toNat) a3 a4 false))) else (glossatorlaw3_FilewatchBatches.j0 k y202 (l2.take ((mn (l2.length : Int) 10) : Int).toNat) a3 a4 true)))) else (none)) else (none)) = some r := by first | (rw [hy202]; with_reducible exact H) | (have H2_ := (Option.bind_some _ _).symm.trans H; rw [hy202]; with_reducible exact H2_) | (have H2_ := (Option.bind_some _ _).symm.trans H; with_reducible exact H2_) | with_reducible exact H | (rw [hy202]; exact H) | exact H
        have Ny202 := Aside0.mk hy202
        clear hy202
        obtain ⟨ji11, hji11⟩ : ∃ j_ : Int, (mn (l2.length : Int) 10) = j_ := ⟨_, rfl⟩
        replace H : (if 0 ≤ (ji11) then (if (ji11) ≤ (l2.length : Int) then ((filewatch_Batches.f k y202 a1).bind fun bt207 => ((glossatorref3_CheckEvents.f k y202 a1).bind fun t211 => (if bt207.2 = t211 then (if t211 = 0 then ((glossatorref3_Batches.f y202 a1).bind fun t212 => ((glossatorref3_EqualBatches.f k bt207.1 t212).bind fun t215 => (glossatorlaw3_FilewatchBatches.j0 k y202 (l2.take ((ji11) : Int).toNat) a3 a4 (!t215)))) else (if (bt207.1.length : Int) > 0 then (glossatorlaw3_FilewatchBatches.j0 k y202 (l2.take ((ji11) : Int).toNat) a3 a4 true) else (glossatorlaw3_FilewatchBatches.j0 k y202 (l2.take ((ji11) : Int).toNat) a3 a4 false))) else (glossatorlaw3_FilewatchBatches.j0 k y202 (l2.take ((ji11) : Int).toNat) a3 a4 true)))) else (none)) else (none)) = some r := by first | (rw [hji11] at H; exact H) | (simp only [hji11] at H ⊢; exact H)
        (try rw [hji11] at A6)
        (try (have hji11h : ji11 ≤ 10 := by (rw [← hji11]; unfold mn; (repeat' split) <;> omega)))
        (try (have hji11g : ji11 ≤ 64 := by omega))
        (try (have hji11l : 0 ≤ ji11 := by (rw [← hji11]; unfold mn; (repeat' split) <;> omega)))
        (try (have hji11m : 0 ≤ ji11 := by omega))
        have hji11_ : (if 10 < (l2.length : Int) then 10 else (l2.length : Int)) = ji11 := hji11
        by_cases c12 : 0 ≤ (ji11)
        · rw [if_pos c12] at H
          have c12b0 := eq_true c12
          have c12b1 : decide (0 ≤ (ji11)) = true := decide_eq_true c12
          clear c12
          by_cases c13 : (ji11) ≤ (l2.length : Int)
          · rw [if_pos c13] at H
            have c13b0 := eq_true c13
            have c13b1 : decide ((ji11) ≤ (l2.length : Int)) = true := decide_eq_true c13
            clear c13
            replace H := Option.bind_eq_some_iff.mp H
            obtain ⟨⟨t207, t208⟩, A140, H⟩ := H
            replace H : ((glossatorref3_CheckEvents.f k y202 a1).bind fun t211 => (if t208 = t211 then (if t211 = 0 then ((glossatorref3_Batches.f y202 a1).bind fun t212 => ((glossatorref3_EqualBatches.f k t207 t212).bind fun t215 => (glossatorlaw3_FilewatchBatches.j0 k y202 (l2.take ((ji11) : Int).toNat) a3 a4 (!t215)))) else (if (t207.length : Int) > 0 then (glossatorlaw3_FilewatchBatches.j0 k y202 (l2.take ((ji11) : Int).toNat) a3 a4 true) else (glossatorlaw3_FilewatchBatches.j0 k y202 (l2.take ((ji11) : Int).toNat) a3 a4 false))) else (glossatorlaw3_FilewatchBatches.j0 k y202 (l2.take ((ji11) : Int).toNat) a3 a4 true))) = some r := H
            have A14 := Aside0.mk A140
            clear A140
            replace H := Option.bind_eq_some_iff.mp H
            obtain ⟨t211, A150, H⟩ := H
            replace H : (if t208 = t211 then (if t211 = 0 then ((glossatorref3_Batches.f y202 a1).bind fun t212 => ((glossatorref3_EqualBatches.f k t207 t212).bind fun t215 => (glossatorlaw3_FilewatchBatches.j0 k y202 (l2.take ((ji11) : Int).toNat) a3 a4 (!t215)))) else (if (t207.length : Int) > 0 then (glossatorlaw3_FilewatchBatches.j0 k y202 (l2.take ((ji11) : Int).toNat) a3 a4 true) else (glossatorlaw3_FilewatchBatches.j0 k y202 (l2.take ((ji11) : Int).toNat) a3 a4 false))) else (glossatorlaw3_FilewatchBatches.j0 k y202 (l2.take ((ji11) : Int).toNat) a3 a4 true)) = some r := H
            have A15 := Aside0.mk A150
            clear A150
            have HC16 := Aside0.mk H
            clear H
            go_enter Try.func5, Try.ntmps5
            go_upto_region 6 with (first | (go_at_call 16; (with_reducible refine (glossatorlaw3_watchExample.calls k  true _ A6.out).mono ?_); rintro e w17 ⟨rfl, hb⟩; have n0_ := Aside0.mk (below_step (by repeat (first | (with_reducible first | exact HB.out | apply below_alloc | apply pw_below_drewN | apply below_drew1) | exact HB.out)) hb); clear HB; have HB := n0_; clear n0_; (try clear hb); (try clear hb2); (try clear hk); (try clear hi); have q18 : ((ji8) : Int) ≤ ((l0.length : Int) : Int) := of_decide_eq_true (by first | (with_reducible assumption) | assumption); obtain ⟨i018, hi018, _, hsz18, _⟩ := info_parts info58; have hroom18 : l0.length ≤ c0 := HC0.out; have hC18 : Kd.C k58 _ A0 l0.length l0 := HR0.out; have hcut18 := cut_to (P := Try.prog) 38 58 .i64 Try.underlying38 hi018 A0 l0.length c0 (ji8) (of_decide_eq_true (by first | (with_reducible assumption) | assumption)) q18 hroom18; have hr18 := Kd.C_take (m := ((ji8) : Int).toNat) hC18 (by omega); have hy18 : y202.length = ((ji8) : Int).toNat := (by rw [Ny202.out, List.length_take]; omega); rw [← Ny202.out] at hr18; rw [← hy18] at hcut18; have HR205 := Aside0.mk hr18; have HC205 := Aside0.mk (show y202.length ≤ c0 from by omega); clear hr18 hC18 hroom18 hi018 hsz18; have KY18 := Aside0.mk hy18; clear hy18; replace q18 := eq_true q18; obtain ⟨i019, hi019, _, hsz19, _⟩ := info_parts info9; obtain ⟨hcut19, hA19, hC19⟩ := print_take_of (P := Try.prog) Value.string (⟨#[]⟩ : ByteArray) 39 9 .i64 Try.underlying39 hi019 hsz19 A2 c2 l2 (ji11) (of_decide_eq_true (by first | (with_reducible assumption) | assumption)) (of_decide_eq_true (by first | (with_reducible assumption) | assumption)) HC2.out; have HR206 := Aside0.mk (Kd.C_of_reads (h1 := fun _ => rfl) (hA19 _ (Kd.reads_of_C HR2.out))); have HC206 := Aside0.mk hC19; clear hA19 hC19 hi019 hsz19) | (go_at_call 17; (with_reducible refine (filewatch_Batches.calls k _ _ y202 a1 t207 t208 _ ?side1 ?side2 A14.out).mono ?_); (case side1 => repeat (first | exact (Kd.C_below HR205.out HB.out) | (with_reducible refine Kd.C_alloc ?_ _) | (with_reducible refine Kd.C_drewN ?_ _) | (with_reducible refine Kd.C_drew ?_))); (case side2 => exact HC205.out); rintro e w20 ⟨v209, rfl, ho0, hb⟩; have n0_ := Aside0.mk (Kd.S_lower ho0 (below_size (by repeat (first | (with_reducible first | exact HB.out | apply below_alloc | apply pw_below_drewN | apply below_drew1) | exact HB.out)))); have n1_ := Aside0.mk (below_step (by repeat (first | (with_reducible first | exact HB.out | apply below_alloc | apply pw_below_drewN | apply below_drew1) | exact HB.out)) hb); clear HB; have HO210 := n0_; have HB := n1_; clear n0_ n1_; (try clear hb); (try clear hb2); (try clear hk); (try clear hi); (try clear ho0)) | (go_at_call 18; (with_reducible refine (glossatorref3_CheckEvents.calls k _ _ y202 a1 t211 _ ?side1 ?side2 A15.out).mono ?_); (case side1 => repeat (first | exact (Kd.C_below HR205.out HB.out) | (with_reducible refine Kd.C_alloc ?_ _) | (with_reducible refine Kd.C_drewN ?_ _) | (with_reducible refine Kd.C_drew ?_))); (case side2 => exact HC205.out); rintro e w21 ⟨rfl, hb⟩; have n0_ := Aside0.mk (Kd.S_below (by (with_reducible repeat (first | apply Kd.S_alloc | apply Kd.S_drewN | apply Kd.S_drew)); exact HO210.out) hb); have n1_ := Aside0.mk (below_step (by repeat (first | (with_reducible first | exact HB.out | apply below_alloc | apply pw_below_drewN | apply below_drew1) | exact HB.out)) hb); clear HO210; clear HB; have HO210 := n0_; have HB := n1_; clear n0_ n1_; (try clear hb); (try clear hb2); (try clear hk); (try clear hi)))
            repeat (go_quiet (fail); go_upto_region 6 with (first | (go_at_call 16; (with_reducible refine (glossatorlaw3_watchExample.calls k  true _ A6.out).mono ?_); rintro e w17 ⟨rfl, hb⟩; have n0_ := Aside0.mk (below_step (by repeat (first | (with_reducible first | exact HB.out | apply below_alloc | apply pw_below_drewN | apply below_drew1) | exact HB.out)) hb); clear HB; have HB := n0_; clear n0_; (try clear hb); (try clear hb2); (try clear hk); (try clear hi); have q18 : ((ji8) : Int) ≤ ((l0.length : Int) : Int) := of_decide_eq_true (by first | (with_reducible assumption) | assumption); obtain ⟨i018, hi018, _, hsz18, _⟩ := info_parts info58; have hroom18 : l0.length ≤ c0 := HC0.out; have hC18 : Kd.C k58 _ A0 l0.length l0 := HR0.out; have hcut18 := cut_to (P := Try.prog) 38 58 .i64 Try.underlying38 hi018 A0 l0.length c0 (ji8) (of_decide_eq_true (by first | (with_reducible assumption) | assumption)) q18 hroom18; have hr18 := Kd.C_take (m := ((ji8) : Int).toNat) hC18 (by omega); have hy18 : y202.length = ((ji8) : Int).toNat := (by rw [Ny202.out, List.length_take]; omega); rw [← Ny202.out] at hr18; rw [← hy18] at hcut18; have HR205 := Aside0.mk hr18; have HC205 := Aside0.mk (show y202.length ≤ c0 from by omega); clear hr18 hC18 hroom18 hi018 hsz18; have KY18 := Aside0.mk hy18; clear hy18; replace q18 := eq_true q18; obtain ⟨i019, hi019, _, hsz19, _⟩ := info_parts info9; obtain ⟨hcut19, hA19, hC19⟩ := print_take_of (P := Try.prog) Value.string (⟨#[]⟩ : ByteArray) 39 9 .i64 Try.underlying39 hi019 hsz19 A2 c2 l2 (ji11) (of_decide_eq_true (by first | (with_reducible assumption) | assumption)) (of_decide_eq_true (by first | (with_reducible assumption) | assumption)) HC2.out; have HR206 := Aside0.mk (Kd.C_of_reads (h1 := fun _ => rfl) (hA19 _ (Kd.reads_of_C HR2.out))); have HC206 := Aside0.mk hC19; clear hA19 hC19 hi019 hsz19) | (go_at_call 17; (with_reducible refine (filewatch_Batches.calls k _ _ y202 a1 t207 t208 _ ?side1 ?side2 A14.out).mono ?_); (case side1 => repeat (first | exact (Kd.C_below HR205.out HB.out) | (with_reducible refine Kd.C_alloc ?_ _) | (with_reducible refine Kd.C_drewN ?_ _) | (with_reducible refine Kd.C_drew ?_))); (case side2 => exact HC205.out); rintro e w20 ⟨v209, rfl, ho0, hb⟩; have n0_ := Aside0.mk (Kd.S_lower ho0 (below_size (by repeat (first | (with_reducible first | exact HB.out | apply below_alloc | apply pw_below_drewN | apply below_drew1) | exact HB.out)))); have n1_ := Aside0.mk (below_step (by repeat (first | (with_reducible first | exact HB.out | apply below_alloc | apply pw_below_drewN | apply below_drew1) | exact HB.out)) hb); clear HB; have HO210 := n0_; have HB := n1_; clear n0_ n1_; (try clear hb); (try clear hb2); (try clear hk); (try clear hi); (try clear ho0)) | (go_at_call 18; (with_reducible refine (glossatorref3_CheckEvents.calls k _ _ y202 a1 t211 _ ?side1 ?side2 A15.out).mono ?_); (case side1 => repeat (first | exact (Kd.C_below HR205.out HB.out) | (with_reducible refine Kd.C_alloc ?_ _) | (with_reducible refine Kd.C_drewN ?_ _) | (with_reducible refine Kd.C_drew ?_))); (case side2 => exact HC205.out); rintro e w21 ⟨rfl, hb⟩; have n0_ := Aside0.mk (Kd.S_below (by (with_reducible repeat (first | apply Kd.S_alloc | apply Kd.S_drewN | apply Kd.S_drew)); exact HO210.out) hb); have n1_ := Aside0.mk (below_step (by repeat (first | (with_reducible first | exact HB.out | apply below_alloc | apply pw_below_drewN | apply below_drew1) | exact HB.out)) hb); clear HO210; clear HB; have HO210 := n0_; have HB := n1_; clear n0_ n1_; (try clear hb); (try clear hb2); (try clear hk); (try clear hi))))
            (try simp only [Act.put, List.setIfInBounds_toArray, List.set_cons_zero, List.set_cons_succ])
            obtain ⟨y206, Ny206⟩ : ∃ y_ : List ByteArray, l2.take ((ji11) : Int).toNat = y_ := ⟨_, rfl⟩
            have hy206 : y206.length = ((ji11) : Int).toNat := by rw [← Ny206, List.length_take]; have h1_ := of_eq_true c13b0; omega
            rw [Ny206] at HR206 HC206 HC16
            try rw [Ny206]
            try rw [← hy206]
            clear hy206 Ny206
            go_cut [58] (fun v58 wc => ∃ (kq : Nat) (x58_15 : Bool), v58 = .bool x58_15 ∧ Aside0 (glossatorlaw3_FilewatchBatches.j0 kq y202 y206 a3 a4 x58_15 = some r) ∧ Aside0 (kq ≤ k) ∧ Aside0 (Below w.heap.size w wc))
            case first =>
              have H := HC16.out
              clear HC16
              by_cases c22 : t208 = t211
              · rw [if_pos c22] at H
                have c22b0 : (t208 == t211) = true := beq_iff_eq.mpr c22
                have c22b1 : (t208 != t211) = false := bne_eq_false_iff_eq.mpr c22
                clear c22
                (first | rw [c22b0] | (simp only [i64_w, i32_w]; rw [c22b0]) | skip)
                by_cases c23 : t211 = 0
                · rw [if_pos c23] at H
                  have c23b0 : (t211 == 0) = true := beq_iff_eq.mpr c23
                  have c23b1 : (t211 != 0) = false := bne_eq_false_iff_eq.mpr c23
                  clear c23
                  replace H := Option.bind_eq_some_iff.mp H
                  obtain ⟨t212, A240, H⟩ := H
                  replace H : ((glossatorref3_EqualBatches.f k t207 t212).bind fun t215 => (glossatorlaw3_FilewatchBatches.j0 k y202 y206 a3 a4 (!t215))) = some r := H
                  have A24 := Aside0.mk A240
                  clear A240
                  replace H := Option.bind_eq_some_iff.mp H
                  obtain ⟨t215, A250, H⟩ := H
                  replace H : (glossatorlaw3_FilewatchBatches.j0 k y202 y206 a3 a4 (!t215)) = some r := H
                  have A25 := Aside0.mk A250
                  clear A250
                  have H' := Aside0.mk H
                  clear H
                  go_wp2_with (first | (go_at_call 20; (with_reducible refine (glossatorref3_Batches.calls _ _ y202 a1 t212 _ ?side1 ?side2 A24.out).mono ?_); (case side1 => repeat (first | exact (Kd.C_below HR205.out HB.out) | (with_reducible refine Kd.C_alloc ?_ _) | (with_reducible refine Kd.C_drewN ?_ _) | (with_reducible refine Kd.C_drew ?_))); (case side2 => exact HC205.out); rintro e w26 ⟨v213, rfl, ho0, hb⟩; have n0_ := Aside0.mk (Kd.S_elder' (by (with_reducible repeat (first | apply Kd.S_alloc | apply Kd.S_drewN | apply Kd.S_drew)); exact HO210.out) (Kd.S_base ho0) hb); have n1_ := Aside0.mk (Kd.S_lower (Kd.S_new' ho0 (Kd.S_lt (by (with_reducible repeat (first | apply Kd.S_alloc | apply Kd.S_drewN | apply Kd.S_drew)); exact HO210.out))) (below_size (by repeat (first | (with_reducible first | exact HB.out | apply below_alloc | apply pw_below_drewN | apply below_drew1) | exact HB.out)))); have n2_ := Aside0.mk (below_step (by repeat (first | (with_reducible first | exact HB.out | apply below_alloc | apply pw_below_drewN | apply below_drew1) | exact HB.out)) hb); clear HO210; clear HB; have HO210 := n0_; have HO214 := n1_; have HB := n2_; clear n0_ n1_ n2_; (try clear hb); (try clear hb2); (try clear hk); (try clear hi); (try clear ho0); obtain ⟨Ao27, co27, eo27⟩ := Kd.S_slice HO210.out; subst eo27; obtain ⟨Ao28, co28, eo28⟩ := Kd.S_slice HO214.out; subst eo28) | (go_at_call 19; (with_reducible refine (glossatorref3_EqualBatches.calls k _ _ t207 _ _ t212 t215 _ ?side1 ?side2 ?side3 ?side4 A25.out).mono ?_); (case side1 => repeat (first | exact (Kd.S_reads' HO210.out).2.2 | (with_reducible refine Kd.C_alloc ?_ _) | (with_reducible refine Kd.C_drewN ?_ _) | (with_reducible refine Kd.C_drew ?_))); (case side2 => exact (Kd.S_reads' HO210.out).2.1); (case side3 => repeat (first | exact (Kd.S_reads' HO214.out).2.2 | (with_reducible refine Kd.C_alloc ?_ _) | (with_reducible refine Kd.C_drewN ?_ _) | (with_reducible refine Kd.C_drew ?_))); (case side4 => exact (Kd.S_reads' HO214.out).2.1); rintro e w29 ⟨rfl, hb⟩; have n0_ := Aside0.mk (Kd.S_below (by (with_reducible repeat (first | apply Kd.S_alloc | apply Kd.S_drewN | apply Kd.S_drew)); exact HO210.out) hb); have n1_ := Aside0.mk (Kd.S_below (by (with_reducible repeat (first | apply Kd.S_alloc | apply Kd.S_drewN | apply Kd.S_drew)); exact HO214.out) hb); have n2_ := Aside0.mk (below_step (by repeat (first | (with_reducible first | exact HB.out | apply below_alloc | apply pw_below_drewN | apply below_drew1) | exact HB.out)) hb); clear HO210; clear HO214; clear HB; have HO210 := n0_; have HO214 := n1_; have HB := n2_; clear n0_ n1_ n2_; (try clear hb); (try clear hb2); (try clear hk); (try clear hi)))
                  repeat (go_quiet (fail); try go_wp2)
                  go_meet
                  case rel => exact ⟨_, (!t215), (by first | rfl | (simp; done) | (simp [*]; done) | (simp [isEmpty_bne]; done)), H', ⟨by first | omega | exact Nat.le_refl _⟩, ⟨by repeat (first | (with_reducible first | exact HB.out | apply below_alloc | apply pw_below_drewN | apply below_drew1) | exact HB.out)⟩⟩
                · rw [if_neg c23] at H
                  have c23b0 : (t211 == 0) = false := beq_eq_false_iff_ne.mpr c23
                  have c23b1 : (t211 != 0) = true := bne_iff_ne.mpr c23
                  by_cases c30 : (t207.length : Int) > 0
                  · rw [if_pos c30] at H
                    have c30b0 : decide (0 < (t207.length : Int)) = true := decide_eq_true c30
                    have c30b1 : decide (0 < t207.length) = true := decide_eq_true (by omega)
                    clear c30
                    have H' := Aside0.mk H
                    clear H
                    obtain ⟨Ao31, co31, eo31⟩ := Kd.S_slice HO210.out
                    subst eo31
                    go_wp2
                    repeat (go_quiet (fail); try go_wp2)
                    go_meet
                    case rel => exact ⟨_, (true), (by first | rfl | (simp; done) | (simp [*]; done) | (simp [isEmpty_bne]; done)), H', ⟨by first | omega | exact Nat.le_refl _⟩, ⟨by repeat (first | (with_reducible first | exact HB.out | apply below_alloc | apply pw_below_drewN | apply below_drew1) | exact HB.out)⟩⟩
                  · rw [if_neg c30] at H
                    have c30b0 : decide (0 < (t207.length : Int)) = false := decide_eq_false c30
                    have c30b1 : decide (0 < t207.length) = false := decide_eq_false (by omega)
                    clear c30
                    have H' := Aside0.mk H
                    clear H
                    obtain ⟨Ao32, co32, eo32⟩ := Kd.S_slice HO210.out
                    subst eo32
                    go_wp2
                    repeat (go_quiet (fail); try go_wp2)
                    go_meet
                    case rel => exact ⟨_, (false), (by first | rfl | (simp; done) | (simp [*]; done) | (simp [isEmpty_bne]; done)), H', ⟨by first | omega | exact Nat.le_refl _⟩, ⟨by repeat (first | (with_reducible first | exact HB.out | apply below_alloc | apply pw_below_drewN | apply below_drew1) | exact HB.out)⟩⟩
              · rw [if_neg c22] at H
                have c22b0 : (t208 == t211) = false := beq_eq_false_iff_ne.mpr c22
                have c22b1 : (t208 != t211) = true := bne_iff_ne.mpr c22
                (first | rw [c22b0] | (simp only [i64_w, i32_w]; rw [c22b0]) | skip)
                have H' := Aside0.mk H
                clear H
                go_wp2
                repeat (go_quiet (fail); try go_wp2)
                go_meet
                case rel => exact ⟨_, (true), (by first | rfl | (simp; done) | (simp [*]; done) | (simp [isEmpty_bne]; done)), H', ⟨by first | omega | exact Nat.le_refl _⟩, ⟨by repeat (first | (with_reducible first | exact HB.out | apply below_alloc | apply pw_below_drewN | apply below_drew1) | exact HB.out)⟩⟩
            case rest =>
              clear HC16
              try clear c1
              try clear q1
              try clear c2
              try clear p2
              try clear c3
              try clear c5
              try clear c7
              try clear c9
              try clear c9b0
              try clear c9b1
              try clear c10
              try clear c10b0
              try clear c10b1
              try clear c12
              try clear c12b0
              try clear c12b1
              try clear c13
              try clear c13b0
              try clear c13b1
              try clear q18
              try clear c22
              try clear c22b0
              try clear c22b1
              try clear c23
              try clear c23b0
              try clear c23b1
              try clear c30
              try clear c30b0
              try clear c30b1
              try clear q18
              obtain ⟨kq, x58_15, rfl, HA, HJ15, HB⟩ := hcut
              cases kq with
              | zero => exact absurd HA.out (by simp [glossatorlaw3_FilewatchBatches.j0])
              | succ kj15 =>
                have H := HA.out
                clear HA
                simp only [glossatorlaw3_FilewatchBatches.j0] at H
                by_cases c33 : x58_15 = true
                · subst c33
                  have H1 : (some false) = some r := by rw [if_pos rfl] at H; exact H
                  clear H
                  have H := H1
                  clear H1
                  obtain rfl := Option.some.inj H
                  go_wp2
                  repeat (go_quiet (fail); try go_wp2)
                  go_ret
                  exact ⟨by first | rfl | (simp [errW_none, errW_some] <;> rfl) | (simp only [← hji8, ← hji11]; first | rfl | (simp [errW_none, errW_some] <;> rfl)) | (simp [*, errW_none, errW_some] <;> rfl), by repeat (first | (with_reducible first | exact HB.out | apply below_alloc | apply pw_below_drewN | apply below_drew1) | exact HB.out)⟩
                · replace c33 := Bool.eq_false_iff.mpr c33
                  subst c33
                  have H1 : ((glossatorlaw3_watchExample.f kj15).bind fun t216 => (if t216 = true then ((filewatch_Merge.f kj15 a3 a4).bind fun t217 => ((glossatorref3_Merge.f a3 a4).bind fun t218 => (if t217 = t218 then ((filewatch_Apply.f y206 y202).bind fun t219 => ((glossatorref3_Files.f kj15 y206 y202).bind fun t222 => ((glossatorref3_Equal_string.f kj15 t219 t222).bind fun t225 => (if t225 = true then ((filewatch_Consistent.f y206 y202).bind fun t226 => ((glossatorref3_Consistent.f kj15 y206 y202).bind fun t227 => (some (t226 == t227)))) else (some false))))) else (some false)))) else (some false))) = some r := by rw [if_neg (show ¬ (false = true) by decide)] at H; exact H
                  clear H
                  have H := H1
                  clear H1
                  replace H := Option.bind_eq_some_iff.mp H
                  obtain ⟨t216, A340, H⟩ := H
                  replace H : (if t216 = true then ((filewatch_Merge.f kj15 a3 a4).bind fun t217 => ((glossatorref3_Merge.f a3 a4).bind fun t218 => (if t217 = t218 then ((filewatch_Apply.f y206 y202).bind fun t219 => ((glossatorref3_Files.f kj15 y206 y202).bind fun t222 => ((glossatorref3_Equal_string.f kj15 t219 t222).bind fun t225 => (if t225 = true then ((filewatch_Consistent.f y206 y202).bind fun t226 => ((glossatorref3_Consistent.f kj15 y206 y202).bind fun t227 => (some (t226 == t227)))) else (some false))))) else (some false)))) else (some false)) = some r := H
                  have A34 := Aside0.mk A340
                  clear A340
                  by_cases c35 : t216 = true
                  · subst c35
                    have H1 : ((filewatch_Merge.f kj15 a3 a4).bind fun t217 => ((glossatorref3_Merge.f a3 a4).bind fun t218 => (if t217 = t218 then ((filewatch_Apply.f y206 y202).bind fun t219 => ((glossatorref3_Files.f kj15 y206 y202).bind fun t222 => ((glossatorref3_Equal_string.f kj15 t219 t222).bind fun t225 => (if t225 = true then ((filewatch_Consistent.f y206 y202).bind fun t226 => ((glossatorref3_Consistent.f kj15 y206 y202).bind fun t227 => (some (t226 == t227)))) else (some false))))) else (some false)))) = some r := by rw [if_pos rfl] at H; exact H
                    clear H
                    have H := H1
                    clear H1
                    replace H := Option.bind_eq_some_iff.mp H
                    obtain ⟨t217, A360, H⟩ := H
                    replace H : ((glossatorref3_Merge.f a3 a4).bind fun t218 => (if t217 = t218 then ((filewatch_Apply.f y206 y202).bind fun t219 => ((glossatorref3_Files.f kj15 y206 y202).bind fun t222 => ((glossatorref3_Equal_string.f kj15 t219 t222).bind fun t225 => (if t225 = true then ((filewatch_Consistent.f y206 y202).bind fun t226 => ((glossatorref3_Consistent.f kj15 y206 y202).bind fun t227 => (some (t226 == t227)))) else (some false))))) else (some false))) = some r := H
                    have A36 := Aside0.mk A360
                    clear A360
                    replace H := Option.bind_eq_some_iff.mp H
                    obtain ⟨t218, A370, H⟩ := H
                    replace H : (if t217 = t218 then ((filewatch_Apply.f y206 y202).bind fun t219 => ((glossatorref3_Files.f kj15 y206 y202).bind fun t222 => ((glossatorref3_Equal_string.f kj15 t219 t222).bind fun t225 => (if t225 = true then ((filewatch_Consistent.f y206 y202).bind fun t226 => ((glossatorref3_Consistent.f kj15 y206 y202).bind fun t227 => (some (t226 == t227)))) else (some false))))) else (some false)) = some r := H
                    have A37 := Aside0.mk A370
                    clear A370
                    by_cases c38 : t217 = t218
                    · rw [if_pos c38] at H
                      have c38b0 : (t217 == t218) = true := beq_iff_eq.mpr c38
                      have c38b1 : (t217 != t218) = false := bne_eq_false_iff_eq.mpr c38
                      clear c38
                      replace H := Option.bind_eq_some_iff.mp H
                      obtain ⟨t219, A390, H⟩ := H
                      replace H : ((glossatorref3_Files.f kj15 y206 y202).bind fun t222 => ((glossatorref3_Equal_string.f kj15 t219 t222).bind fun t225 => (if t225 = true then ((filewatch_Consistent.f y206 y202).bind fun t226 => ((glossatorref3_Consistent.f kj15 y206 y202).bind fun t227 => (some (t226 == t227)))) else (some false)))) = some r := H
                      have A39 := Aside0.mk A390
                      clear A390
                      replace H := Option.bind_eq_some_iff.mp H
                      obtain ⟨t222, A400, H⟩ := H
                      replace H : ((glossatorref3_Equal_string.f kj15 t219 t222).bind fun t225 => (if t225 = true then ((filewatch_Consistent.f y206 y202).bind fun t226 => ((glossatorref3_Consistent.f kj15 y206 y202).bind fun t227 => (some (t226 == t227)))) else (some false))) = some r := H
                      have A40 := Aside0.mk A400
                      clear A400
                      replace H := Option.bind_eq_some_iff.mp H
                      obtain ⟨t225, A410, H⟩ := H
                      replace H : (if t225 = true then ((filewatch_Consistent.f y206 y202).bind fun t226 => ((glossatorref3_Consistent.f kj15 y206 y202).bind fun t227 => (some (t226 == t227)))) else (some false)) = some r := H
                      have A41 := Aside0.mk A410
                      clear A410
                      by_cases c42 : t225 = true
                      · subst c42
                        have H1 : ((filewatch_Consistent.f y206 y202).bind fun t226 => ((glossatorref3_Consistent.f kj15 y206 y202).bind fun t227 => (some (t226 == t227)))) = some r := by rw [if_pos rfl] at H; exact H
                        clear H
                        have H := H1
                        clear H1
                        replace H := Option.bind_eq_some_iff.mp H
                        obtain ⟨t226, A430, H⟩ := H
                        replace H : ((glossatorref3_Consistent.f kj15 y206 y202).bind fun t227 => (some (t226 == t227))) = some r := H
                        have A43 := Aside0.mk A430
                        clear A430
                        replace H := Option.bind_eq_some_iff.mp H
                        obtain ⟨t227, A440, H⟩ := H
                        replace H : (some (t226 == t227)) = some r := H
                        have A44 := Aside0.mk A440
                        clear A440
                        obtain rfl := Option.some.inj H
                        go_wp2_with (first | (go_at_call 16; (with_reducible refine (glossatorlaw3_watchExample.calls kj15  true _ A34.out).mono ?_); rintro e w45 ⟨rfl, hb⟩; have n0_ := Aside0.mk (below_step (by repeat (first | (with_reducible first | exact HB.out | apply below_alloc | apply pw_below_drewN | apply below_drew1) | exact HB.out)) hb); clear HB; have HB := n0_; clear n0_; (try clear hb); (try clear hb2); (try clear hk); (try clear hi)) | (go_at_call 21; (with_reducible refine (filewatch_Merge.calls kj15 a3 a4 t217 _ A36.out).mono ?_); rintro e w' ⟨rfl, ⟨nd, rfl⟩⟩; (try first | exact ⟨rfl, _, World.drewN_drewN _ _ _⟩ | exact ⟨rfl, _, Eq.trans (World.drewN_drewN _ _ _) (congrArg (World.drewN _) (Nat.add_assoc _ _ _))⟩)) | (go_at_call 22; (with_reducible refine (glossatorref3_Merge.calls a3 a4 t218 _ A37.out).mono ?_); rintro e w46 ⟨rfl, hb⟩; have n0_ := Aside0.mk (below_step (by repeat (first | (with_reducible first | exact HB.out | apply below_alloc | apply pw_below_drewN | apply below_drew1) | exact HB.out)) hb); clear HB; have HB := n0_; clear n0_; (try clear hb); (try clear hb2); (try clear hk); (try clear hi)) | (go_at_call 24; (with_reducible refine (filewatch_Apply.calls _ _ y206 _ _ y202 t219 _ ?side1 ?side2 ?side3 ?side4 A39.out).mono ?_); (case side1 => repeat (first | exact (Kd.C_below HR206.out HB.out) | (with_reducible refine Kd.C_alloc ?_ _) | (with_reducible refine Kd.C_drewN ?_ _) | (with_reducible refine Kd.C_drew ?_))); (case side2 => exact HC206.out); (case side3 => repeat (first | exact (Kd.C_below HR205.out HB.out) | (with_reducible refine Kd.C_alloc ?_ _) | (with_reducible refine Kd.C_drewN ?_ _) | (with_reducible refine Kd.C_drew ?_))); (case side4 => exact HC205.out); rintro e w47 ⟨v220, rfl, ho0, hb⟩; have n0_ := Aside0.mk (Kd.R_lower ho0 (below_size (by repeat (first | (with_reducible first | exact HB.out | apply below_alloc | apply pw_below_drewN | apply below_drew1) | exact HB.out)))); have n1_ := Aside0.mk (below_step (by repeat (first | (with_reducible first | exact HB.out | apply below_alloc | apply pw_below_drewN | apply below_drew1) | exact HB.out)) hb); clear HB; have HO221 := n0_; have HB := n1_; clear n0_ n1_; (try clear hb); (try clear hb2); (try clear hk); (try clear hi); (try clear ho0)) | (go_at_call 25; (with_reducible refine (glossatorref3_Files.calls kj15 _ _ y206 _ _ y202 t222 _ ?side1 ?side2 ?side3 ?side4 A40.out).mono ?_); (case side1 => repeat (first | exact (Kd.C_below HR206.out HB.out) | (with_reducible refine Kd.C_alloc ?_ _) | (with_reducible refine Kd.C_drewN ?_ _) | (with_reducible refine Kd.C_drew ?_))); (case side2 => exact HC206.out); (case side3 => repeat (first | exact (Kd.C_below HR205.out HB.out) | (with_reducible refine Kd.C_alloc ?_ _) | (with_reducible refine Kd.C_drewN ?_ _) | (with_reducible refine Kd.C_drew ?_))); (case side4 => exact HC205.out); rintro e w48 ⟨v223, rfl, ho0, hb⟩; have n0_ := Aside0.mk (Kd.R_elder' (by (with_reducible repeat (first | apply Kd.R_alloc | apply Kd.R_drewN | apply Kd.R_drew)); exact HO221.out) (Kd.R_base ho0) hb); have n1_ := Aside0.mk (Kd.R_lower (Kd.R_new' ho0 (Kd.R_lt (by (with_reducible repeat (first | apply Kd.R_alloc | apply Kd.R_drewN | apply Kd.R_drew)); exact HO221.out))) (below_size (by repeat (first | (with_reducible first | exact HB.out | apply below_alloc | apply pw_below_drewN | apply below_drew1) | exact HB.out)))); have n2_ := Aside0.mk (below_step (by repeat (first | (with_reducible first | exact HB.out | apply below_alloc | apply pw_below_drewN | apply below_drew1) | exact HB.out)) hb); clear HO221; clear HB; have HO221 := n0_; have HO224 := n1_; have HB := n2_; clear n0_ n1_ n2_; (try clear hb); (try clear hb2); (try clear hk); (try clear hi); (try clear ho0); obtain ⟨Ao49, co49, eo49⟩ := Kd.R_slice HO221.out; subst eo49; obtain ⟨Ao50, co50, eo50⟩ := Kd.R_slice HO224.out; subst eo50) | (go_at_call 23; (with_reducible refine (glossatorref3_Equal_string.calls kj15 _ _ t219 _ _ t222 true _ ?side1 ?side2 ?side3 ?side4 A41.out).mono ?_); (case side1 => repeat (first | exact (Kd.R_reads' HO221.out).2.2 | (with_reducible refine Kd.C_alloc ?_ _) | (with_reducible refine Kd.C_drewN ?_ _) | (with_reducible refine Kd.C_drew ?_))); (case side2 => exact (Kd.R_reads' HO221.out).2.1); (case side3 => repeat (first | exact (Kd.R_reads' HO224.out).2.2 | (with_reducible refine Kd.C_alloc ?_ _) | (with_reducible refine Kd.C_drewN ?_ _) | (with_reducible refine Kd.C_drew ?_))); (case side4 => exact (Kd.R_reads' HO224.out).2.1); rintro e w' ⟨rfl, ⟨nd, rfl⟩⟩; (try first | exact ⟨rfl, _, World.drewN_drewN _ _ _⟩ | exact ⟨rfl, _, Eq.trans (World.drewN_drewN _ _ _) (congrArg (World.drewN _) (Nat.add_assoc _ _ _))⟩)) | (go_at_call 26; (with_reducible refine (filewatch_Consistent.calls _ _ y206 _ _ y202 t226 _ ?side1 ?side2 ?side3 ?side4 A43.out).mono ?_); (case side1 => repeat (first | exact (Kd.C_below HR206.out (by repeat (first | (with_reducible first | exact HB.out | apply below_alloc | apply pw_below_drewN | apply below_drew1) | exact HB.out))) | (with_reducible refine Kd.C_alloc ?_ _) | (with_reducible refine Kd.C_drewN ?_ _) | (with_reducible refine Kd.C_drew ?_))); (case side2 => exact HC206.out); (case side3 => repeat (first | exact (Kd.C_below HR205.out (by repeat (first | (with_reducible first | exact HB.out | apply below_alloc | apply pw_below_drewN | apply below_drew1) | exact HB.out))) | (with_reducible refine Kd.C_alloc ?_ _) | (with_reducible refine Kd.C_drewN ?_ _) | (with_reducible refine Kd.C_drew ?_))); (case side4 => exact HC205.out); rintro e w51 ⟨rfl, hb⟩; have n0_ := Aside0.mk (Kd.R_below (by (with_reducible repeat (first | apply Kd.R_alloc | apply Kd.R_drewN | apply Kd.R_drew)); exact HO221.out) hb); have n1_ := Aside0.mk (Kd.R_below (by (with_reducible repeat (first | apply Kd.R_alloc | apply Kd.R_drewN | apply Kd.R_drew)); exact HO224.out) hb); have n2_ := Aside0.mk (below_step (by repeat (first | (with_reducible first | exact HB.out | apply below_alloc | apply pw_below_drewN | apply below_drew1) | exact HB.out)) hb); clear HO221; clear HO224; clear HB; have HO221 := n0_; have HO224 := n1_; have HB := n2_; clear n0_ n1_ n2_; (try clear hb); (try clear hb2); (try clear hk); (try clear hi)) | (go_at_call 27; (with_reducible refine (glossatorref3_Consistent.calls kj15 _ _ y206 _ _ y202 t227 _ ?side1 ?side2 ?side3 ?side4 A44.out).mono ?_); (case side1 => repeat (first | exact (Kd.C_below HR206.out HB.out) | (with_reducible refine Kd.C_alloc ?_ _) | (with_reducible refine Kd.C_drewN ?_ _) | (with_reducible refine Kd.C_drew ?_))); (case side2 => exact HC206.out); (case side3 => repeat (first | exact (Kd.C_below HR205.out HB.out) | (with_reducible refine Kd.C_alloc ?_ _) | (with_reducible refine Kd.C_drewN ?_ _) | (with_reducible refine Kd.C_drew ?_))); (case side4 => exact HC205.out); rintro e w52 ⟨rfl, hb⟩; have n0_ := Aside0.mk (Kd.R_below (by (with_reducible repeat (first | apply Kd.R_alloc | apply Kd.R_drewN | apply Kd.R_drew)); exact HO221.out) hb); have n1_ := Aside0.mk (Kd.R_below (by (with_reducible repeat (first | apply Kd.R_alloc | apply Kd.R_drewN | apply Kd.R_drew)); exact HO224.out) hb); have n2_ := Aside0.mk (below_step (by repeat (first | (with_reducible first | exact HB.out | apply below_alloc | apply pw_below_drewN | apply below_drew1) | exact HB.out)) hb); clear HO221; clear HO224; clear HB; have HO221 := n0_; have HO224 := n1_; have HB := n2_; clear n0_ n1_ n2_; (try clear hb); (try clear hb2); (try clear hk); (try clear hi)))
                        repeat (go_quiet (fail); try go_wp2)
                        go_ret
                        exact ⟨by first | rfl | (simp [errW_none, errW_some] <;> rfl) | (simp only [← hji8, ← hji11]; first | rfl | (simp [errW_none, errW_some] <;> rfl)) | (simp [*, errW_none, errW_some] <;> rfl), by repeat (first | (with_reducible first | exact HB.out | apply below_alloc | apply pw_below_drewN | apply below_drew1) | exact HB.out)⟩
                      · replace c42 := Bool.eq_false_iff.mpr c42
                        subst c42
                        have H1 : (some false) = some r := by rw [if_neg (show ¬ (false = true) by decide)] at H; exact H
                        clear H
                        have H := H1
                        clear H1
                        obtain rfl := Option.some.inj H
                        go_wp2_with (first | (go_at_call 16; (with_reducible refine (glossatorlaw3_watchExample.calls kj15  true _ A34.out).mono ?_); rintro e w53 ⟨rfl, hb⟩; have n0_ := Aside0.mk (below_step (by repeat (first | (with_reducible first | exact HB.out | apply below_alloc | apply pw_below_drewN | apply below_drew1) | exact HB.out)) hb); clear HB; have HB := n0_; clear n0_; (try clear hb); (try clear hb2); (try clear hk); (try clear hi)) | (go_at_call 21; (with_reducible refine (filewatch_Merge.calls kj15 a3 a4 t217 _ A36.out).mono ?_); rintro e w' ⟨rfl, ⟨nd, rfl⟩⟩; (try first | exact ⟨rfl, _, World.drewN_drewN _ _ _⟩ | exact ⟨rfl, _, Eq.trans (World.drewN_drewN _ _ _) (congrArg (World.drewN _) (Nat.add_assoc _ _ _))⟩)) | (go_at_call 22; (with_reducible refine (glossatorref3_Merge.calls a3 a4 t218 _ A37.out).mono ?_); rintro e w54 ⟨rfl, hb⟩; have n0_ := Aside0.mk (below_step (by repeat (first | (with_reducible first | exact HB.out | apply below_alloc | apply pw_below_drewN | apply below_drew1) | exact HB.out)) hb); clear HB; have HB := n0_; clear n0_; (try clear hb); (try clear hb2); (try clear hk); (try clear hi)) | (go_at_call 24; (with_reducible refine (filewatch_Apply.calls _ _ y206 _ _ y202 t219 _ ?side1 ?side2 ?side3 ?side4 A39.out).mono ?_); (case side1 => repeat (first | exact (Kd.C_below HR206.out HB.out) | (with_reducible refine Kd.C_alloc ?_ _) | (with_reducible refine Kd.C_drewN ?_ _) | (with_reducible refine Kd.C_drew ?_))); (case side2 => exact HC206.out); (case side3 => repeat (first | exact (Kd.C_below HR205.out HB.out) | (with_reducible refine Kd.C_alloc ?_ _) | (with_reducible refine Kd.C_drewN ?_ _) | (with_reducible refine Kd.C_drew ?_))); (case side4 => exact HC205.out); rintro e w55 ⟨v220, rfl, ho0, hb⟩; have n0_ := Aside0.mk (Kd.R_lower ho0 (below_size (by repeat (first | (with_reducible first | exact HB.out | apply below_alloc | apply pw_below_drewN | apply below_drew1) | exact HB.out)))); have n1_ := Aside0.mk (below_step (by repeat (first | (with_reducible first | exact HB.out | apply below_alloc | apply pw_below_drewN | apply below_drew1) | exact HB.out)) hb); clear HB; have HO221 := n0_; have HB := n1_; clear n0_ n1_; (try clear hb); (try clear hb2); (try clear hk); (try clear hi); (try clear ho0)) | (go_at_call 25; (with_reducible refine (glossatorref3_Files.calls kj15 _ _ y206 _ _ y202 t222 _ ?side1 ?side2 ?side3 ?side4 A40.out).mono ?_); (case side1 => repeat (first | exact (Kd.C_below HR206.out HB.out) | (with_reducible refine Kd.C_alloc ?_ _) | (with_reducible refine Kd.C_drewN ?_ _) | (with_reducible refine Kd.C_drew ?_))); (case side2 => exact HC206.out); (case side3 => repeat (first | exact (Kd.C_below HR205.out HB.out) | (with_reducible refine Kd.C_alloc ?_ _) | (with_reducible refine Kd.C_drewN ?_ _) | (with_reducible refine Kd.C_drew ?_))); (case side4 => exact HC205.out); rintro e w56 ⟨v223, rfl, ho0, hb⟩; have n0_ := Aside0.mk (Kd.R_elder' (by (with_reducible repeat (first | apply Kd.R_alloc | apply Kd.R_drewN | apply Kd.R_drew)); exact HO221.out) (Kd.R_base ho0) hb); have n1_ := Aside0.mk (Kd.R_lower (Kd.R_new' ho0 (Kd.R_lt (by (with_reducible repeat (first | apply Kd.R_alloc | apply Kd.R_drewN | apply Kd.R_drew)); exact HO221.out))) (below_size (by repeat (first | (with_reducible first | exact HB.out | apply below_alloc | apply pw_below_drewN | apply below_drew1) | exact HB.out)))); have n2_ := Aside0.mk (below_step (by repeat (first | (with_reducible first | exact HB.out | apply below_alloc | apply pw_below_drewN | apply below_drew1) | exact HB.out)) hb); clear HO221; clear HB; have HO221 := n0_; have HO224 := n1_; have HB := n2_; clear n0_ n1_ n2_; (try clear hb); (try clear hb2); (try clear hk); (try clear hi); (try clear ho0); obtain ⟨Ao57, co57, eo57⟩ := Kd.R_slice HO221.out; subst eo57; obtain ⟨Ao58, co58, eo58⟩ := Kd.R_slice HO224.out; subst eo58) | (go_at_call 23; (with_reducible refine (glossatorref3_Equal_string.calls kj15 _ _ t219 _ _ t222 false _ ?side1 ?side2 ?side3 ?side4 A41.out).mono ?_); (case side1 => repeat (first | exact (Kd.R_reads' HO221.out).2.2 | (with_reducible refine Kd.C_alloc ?_ _) | (with_reducible refine Kd.C_drewN ?_ _) | (with_reducible refine Kd.C_drew ?_))); (case side2 => exact (Kd.R_reads' HO221.out).2.1); (case side3 => repeat (first | exact (Kd.R_reads' HO224.out).2.2 | (with_reducible refine Kd.C_alloc ?_ _) | (with_reducible refine Kd.C_drewN ?_ _) | (with_reducible refine Kd.C_drew ?_))); (case side4 => exact (Kd.R_reads' HO224.out).2.1); rintro e w' ⟨rfl, ⟨nd, rfl⟩⟩; (try first | exact ⟨rfl, _, World.drewN_drewN _ _ _⟩ | exact ⟨rfl, _, Eq.trans (World.drewN_drewN _ _ _) (congrArg (World.drewN _) (Nat.add_assoc _ _ _))⟩)))
                        repeat (go_quiet (fail); try go_wp2)
                        go_ret
                        exact ⟨by first | rfl | (simp [errW_none, errW_some] <;> rfl) | (simp only [← hji8, ← hji11]; first | rfl | (simp [errW_none, errW_some] <;> rfl)) | (simp [*, errW_none, errW_some] <;> rfl), by repeat (first | (with_reducible first | exact HB.out | apply below_alloc | apply pw_below_drewN | apply below_drew1) | exact HB.out)⟩
                    · rw [if_neg c38] at H
                      have c38b0 : (t217 == t218) = false := beq_eq_false_iff_ne.mpr c38
                      have c38b1 : (t217 != t218) = true := bne_iff_ne.mpr c38
                      obtain rfl := Option.some.inj H
                      go_wp2_with (first | (go_at_call 16; (with_reducible refine (glossatorlaw3_watchExample.calls kj15  true _ A34.out).mono ?_); rintro e w59 ⟨rfl, hb⟩; have n0_ := Aside0.mk (below_step (by repeat (first | (with_reducible first | exact HB.out | apply below_alloc | apply pw_below_drewN | apply below_drew1) | exact HB.out)) hb); clear HB; have HB := n0_; clear n0_; (try clear hb); (try clear hb2); (try clear hk); (try clear hi)) | (go_at_call 21; (with_reducible refine (filewatch_Merge.calls kj15 a3 a4 t217 _ A36.out).mono ?_); rintro e w' ⟨rfl, ⟨nd, rfl⟩⟩; (try first | exact ⟨rfl, _, World.drewN_drewN _ _ _⟩ | exact ⟨rfl, _, Eq.trans (World.drewN_drewN _ _ _) (congrArg (World.drewN _) (Nat.add_assoc _ _ _))⟩)) | (go_at_call 22; (with_reducible refine (glossatorref3_Merge.calls a3 a4 t218 _ A37.out).mono ?_); rintro e w60 ⟨rfl, hb⟩; have n0_ := Aside0.mk (below_step (by repeat (first | (with_reducible first | exact HB.out | apply below_alloc | apply pw_below_drewN | apply below_drew1) | exact HB.out)) hb); clear HB; have HB := n0_; clear n0_; (try clear hb); (try clear hb2); (try clear hk); (try clear hi)))
                      repeat (go_quiet (fail); try go_wp2)
                      go_ret
                      exact ⟨by first | rfl | (simp [errW_none, errW_some] <;> rfl) | (simp only [← hji8, ← hji11]; first | rfl | (simp [errW_none, errW_some] <;> rfl)) | (simp [*, errW_none, errW_some] <;> rfl), by repeat (first | (with_reducible first | exact HB.out | apply below_alloc | apply pw_below_drewN | apply below_drew1) | exact HB.out)⟩
                  · replace c35 := Bool.eq_false_iff.mpr c35
                    subst c35
                    have H1 : (some false) = some r := by rw [if_neg (show ¬ (false = true) by decide)] at H; exact H
                    clear H
                    have H := H1
                    clear H1
                    obtain rfl := Option.some.inj H
                    go_wp2_with (first | (go_at_call 16; (with_reducible refine (glossatorlaw3_watchExample.calls kj15  false _ A34.out).mono ?_); rintro e w61 ⟨rfl, hb⟩; have n0_ := Aside0.mk (below_step (by repeat (first | (with_reducible first | exact HB.out | apply below_alloc | apply pw_below_drewN | apply below_drew1) | exact HB.out)) hb); clear HB; have HB := n0_; clear n0_; (try clear hb); (try clear hb2); (try clear hk); (try clear hi)))
                    repeat (go_quiet (fail); try go_wp2)
                    go_ret
                    exact ⟨by first | rfl | (simp [errW_none, errW_some] <;> rfl) | (simp only [← hji8, ← hji11]; first | rfl | (simp [errW_none, errW_some] <;> rfl)) | (simp [*, errW_none, errW_some] <;> rfl), by repeat (first | (with_reducible first | exact HB.out | apply below_alloc | apply pw_below_drewN | apply below_drew1) | exact HB.out)⟩
          · rw [if_neg c13] at H
            exact absurd H (by simp)
        · rw [if_neg c12] at H
          exact absurd H (by simp)
      · rw [if_neg c10] at H
        exact absurd H (by simp)
    · rw [if_neg c9] at H
      exact absurd H (by simp)
  · replace c7 := Bool.eq_false_iff.mpr c7
    subst c7
    have H1 : (some false) = some r := by rw [if_neg (show ¬ (false = true) by decide)] at H; exact H
    clear H
    have H := H1
    clear H1
    obtain rfl := Option.some.inj H
    go_enter Try.func5, Try.ntmps5
    go_wp2_with (first | (go_at_call 16; (with_reducible refine (glossatorlaw3_watchExample.calls k  false _ A6.out).mono ?_); rintro e w62 ⟨rfl, hb⟩; have n0_ := Aside0.mk (below_step (by repeat (first | (with_reducible first | exact HB.out | apply below_alloc | apply pw_below_drewN | apply below_drew1) | exact HB.out)) hb); clear HB; have HB := n0_; clear n0_; (try clear hb); (try clear hb2); (try clear hk); (try clear hi)))
    repeat (go_quiet (fail); try go_wp2)
    go_ret
    exact ⟨by first | rfl | (simp [errW_none, errW_some] <;> rfl) | (simp [*, errW_none, errW_some] <;> rfl), by repeat (first | (with_reducible first | exact HB.out | apply below_alloc | apply pw_below_drewN | apply below_drew1) | exact HB.out)⟩

end Go.Proofs.Ytcikmpcacakfbaa.QFilewatchBatches
