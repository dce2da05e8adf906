-- Written by gen.py (this repo's wip/), which runs the kit's print.py with more arms. Lean checks it.
import Derived.Test.YtbfedkmiekbcmaaQProgressSplitx0
import Derived.Test.YtbfedkmiekbcmaaQProgressSplitx1
import Derived.Test.YtbfedkmiekbcmaaQProgressSplitx2
import Derived.Test.YtbfedkmiekbcmaaQProgressSplitx3
import Derived.Test.YtbfedkmiekbcmaaQProgressSplitx4
namespace Go.Proofs.Ytbfedkmiekbcmaa.QProgressSplit
open Go.RowKit Go.Proofs.YtbfedkmiekbcmaaW.PrintWords Go.Proofs.YtbfedkmiekbcmaaW.PrintLast Go.Proofs.YtbfedkmiekbcmaaW.PrintMore
attribute [local go_sem] max2_int min2_int max_two min_two max_three min_three max_four min_four   -- for this text's walks alone
set_option linter.unusedVariables false
set_option linter.unusedSimpArgs false

private theorem isEmpty_bne {α : Type} [BEq α] (l : List α) : (l != []) = !l.isEmpty := by cases l <;> rfl

/-! ### glossatorlaw3_ProgressSplit: function 3 -/
mutual
def glossatorlaw3_ProgressSplit.j1 : Nat → Int → List Int → Int → Int → Int → List (S85) → Int → Int → Option (Bool)
  | 0, _, _, _, _, _, _, _, _ => none
  | k + 1, x0, x1, x2, x3, x4, x11, x12, x13 => if x12 = x13 then (if x13 = 0 then ((glossatorref3_Split.f k x0 x1 x2).bind fun t197 => ((glossatorref3_EqualChunks.f k x11 t197).bind fun t200 => (if t200 = true then (glossatorlaw3_ProgressSplit.j2 k x1 x3 x4 false) else (glossatorlaw3_ProgressSplit.j2 k x1 x3 x4 true)))) else (glossatorlaw3_ProgressSplit.j2 k x1 x3 x4 (decide ((x11.length : Int) > 0)))) else (glossatorlaw3_ProgressSplit.j2 k x1 x3 x4 true)
def glossatorlaw3_ProgressSplit.j2 : Nat → List Int → Int → Int → Bool → Option (Bool)
  | 0, _, _, _, _ => none
  | k + 1, x1, x3, x4, x60 => if x60 = true then (some false) else ((progress_Percentages.f k x1 x3 x4).bind fun bt201 => (if x3 < 1 then (glossatorlaw3_ProgressSplit.j3 k x1 x3 x4 0 bt201.1 bt201.2 true) else (if x3 > 2147483647 then (glossatorlaw3_ProgressSplit.j3 k x1 x3 x4 0 bt201.1 bt201.2 true) else (if x4 < 1 then (glossatorlaw3_ProgressSplit.j3 k x1 x3 x4 0 bt201.1 bt201.2 true) else (glossatorlaw3_ProgressSplit.j3 k x1 x3 x4 0 bt201.1 bt201.2 (decide (x4 > 100)))))))
def glossatorlaw3_ProgressSplit.j3 : Nat → List Int → Int → Int → Int → List Int → Int → Bool → Option (Bool)
  | 0, _, _, _, _, _, _, _ => none
  | k + 1, x1, x3, x4, x13, x14, x15, x68 => if x68 = true then ((glossatorlaw3_chunkExample.f k).bind fun t205 => (if t205 = true then (if x15 = 1 then (if 1 = 0 then ((glossatorref3_Percentages.f k x1 x3 x4).bind fun t206 => ((glossatorref3_Equal_int.f k x14 t206).bind fun t209 => (if t209 = true then (some true) else (some false)))) else (some ((x14.length : Int) == 0))) else (some false)) else (some false))) else (if (x1.length : Int) > 1000 then ((glossatorlaw3_chunkExample.f k).bind fun t210 => (if t210 = true then (if x15 = 2 then (if 2 = 0 then ((glossatorref3_Percentages.f k x1 x3 x4).bind fun t211 => ((glossatorref3_Equal_int.f k x14 t211).bind fun t214 => (if t214 = true then (some true) else (some false)))) else (some ((x14.length : Int) == 0))) else (some false)) else (some false))) else ((glossatorlaw3_chunkExample.f k).bind fun t215 => (if t215 = true then (if x15 = x13 then (if x13 = 0 then ((glossatorref3_Percentages.f k x1 x3 x4).bind fun t216 => ((glossatorref3_Equal_int.f k x14 t216).bind fun t219 => (if t219 = true then (some true) else (some false)))) else (some ((x14.length : Int) == 0))) else (some false)) else (some false))))
def glossatorlaw3_ProgressSplit.j0 : Nat → Int → List Int → Int → Int → Int → List (S85) → Int → Int → Bool → Option (Bool)
  | 0, _, _, _, _, _, _, _, _, _ => none
  | k + 1, x0, x1, x2, x3, x4, x11, x12, x13, x25 => if x25 = true then (glossatorlaw3_ProgressSplit.j1 k x0 x1 x2 x3 x4 x11 x12 1) else (if (x1.length : Int) > 1000 then (glossatorlaw3_ProgressSplit.j1 k x0 x1 x2 x3 x4 x11 x12 2) else (glossatorlaw3_ProgressSplit.j1 k x0 x1 x2 x3 x4 x11 x12 x13))
end
def glossatorlaw3_ProgressSplit.f (k : Nat) (a0 : Int) (l1 : List Int) (a2 : Int) (a3 : Int) (a4 : Int) : Option (Bool) := (glossatorlaw3_chunkExample.f k).bind fun t192 => (if t192 = true then ((progress_Split.f a0 l1 a2).bind fun bt193 => (if a0 < 0 then (glossatorlaw3_ProgressSplit.j0 k a0 l1 a2 a3 a4 bt193.1 bt193.2 0 true) else (glossatorlaw3_ProgressSplit.j0 k a0 l1 a2 a3 a4 bt193.1 bt193.2 0 (decide (a2 < 1))))) else (some false))
theorem glossatorlaw3_ProgressSplit.mono_l : ∀ k, (∀ y0 y1 y2 y3 y4 y5 y6 y7, LeO (glossatorlaw3_ProgressSplit.j1 k y0 y1 y2 y3 y4 y5 y6 y7) (glossatorlaw3_ProgressSplit.j1 (k + 1) y0 y1 y2 y3 y4 y5 y6 y7)) ∧ (∀ y0 y1 y2 y3, LeO (glossatorlaw3_ProgressSplit.j2 k y0 y1 y2 y3) (glossatorlaw3_ProgressSplit.j2 (k + 1) y0 y1 y2 y3)) ∧ (∀ y0 y1 y2 y3 y4 y5 y6, LeO (glossatorlaw3_ProgressSplit.j3 k y0 y1 y2 y3 y4 y5 y6) (glossatorlaw3_ProgressSplit.j3 (k + 1) y0 y1 y2 y3 y4 y5 y6)) ∧ (∀ y0 y1 y2 y3 y4 y5 y6 y7 y8, LeO (glossatorlaw3_ProgressSplit.j0 k y0 y1 y2 y3 y4 y5 y6 y7 y8) (glossatorlaw3_ProgressSplit.j0 (k + 1) y0 y1 y2 y3 y4 y5 y6 y7 y8))
  | 0 => ⟨fun _ _ _ _ _ _ _ _ r h => by simp [glossatorlaw3_ProgressSplit.j1] at h, fun _ _ _ _ r h => by simp [glossatorlaw3_ProgressSplit.j2] at h, fun _ _ _ _ _ _ _ r h => by simp [glossatorlaw3_ProgressSplit.j3] at h, fun _ _ _ _ _ _ _ _ _ r h => by simp [glossatorlaw3_ProgressSplit.j0] at h⟩
  | k + 1 => by
    obtain ⟨ih0, ih1, ih2, ih3⟩ := glossatorlaw3_ProgressSplit.mono_l k
    refine ⟨?_, ?_, ?_, ?_⟩
    · intro y0 y1 y2 y3 y4 y5 y6 y7
      unfold glossatorlaw3_ProgressSplit.j1
      repeat' first
      | (with_reducible exact ih0 _ _ _ _ _ _ _ _)
      | (with_reducible exact ih1 _ _ _ _)
      | (with_reducible exact ih2 _ _ _ _ _ _ _)
      | (with_reducible exact ih3 _ _ _ _ _ _ _ _ _)
      | (with_reducible exact glossatorlaw3_chunkExample.mono _)
      | (with_reducible exact glossatorref3_EqualChunks.mono _ _ _)
      | (with_reducible exact glossatorref3_Equal_int.mono _ _ _)
      | (with_reducible exact glossatorref3_Percentages.mono _ _ _ _)
      | (with_reducible exact glossatorref3_Split.mono _ _ _ _)
      | (with_reducible exact progress_Percentages.mono _ _ _ _)
      | (with_reducible exact LeO.refl _)
      | (with_reducible exact LeO.none _)
      | (with_reducible refine LeO.ite ?_ ?_)
      | (with_reducible refine LeO.bind ?_ (fun _ => ?_))
      | exact ih0 _ _ _ _ _ _ _ _
      | exact ih1 _ _ _ _
      | exact ih2 _ _ _ _ _ _ _
      | exact ih3 _ _ _ _ _ _ _ _ _
      | exact glossatorlaw3_chunkExample.mono _
      | exact glossatorref3_EqualChunks.mono _ _ _
      | exact glossatorref3_Equal_int.mono _ _ _
      | exact glossatorref3_Percentages.mono _ _ _ _
      | exact glossatorref3_Split.mono _ _ _ _
      | exact progress_Percentages.mono _ _ _ _
      | exact LeO.none _
      | refine LeO.ite ?_ ?_
      | refine LeO.bind ?_ (fun _ => ?_)
    · intro y0 y1 y2 y3
      unfold glossatorlaw3_ProgressSplit.j2
      repeat' first
      | (with_reducible exact ih0 _ _ _ _ _ _ _ _)
      | (with_reducible exact ih1 _ _ _ _)
      | (with_reducible exact ih2 _ _ _ _ _ _ _)
      | (with_reducible exact ih3 _ _ _ _ _ _ _ _ _)
      | (with_reducible exact glossatorlaw3_chunkExample.mono _)
      | (with_reducible exact glossatorref3_EqualChunks.mono _ _ _)
      | (with_reducible exact glossatorref3_Equal_int.mono _ _ _)
      | (with_reducible exact glossatorref3_Percentages.mono _ _ _ _)
      | (with_reducible exact glossatorref3_Split.mono _ _ _ _)
      | (with_reducible exact progress_Percentages.mono _ _ _ _)
      | (with_reducible exact LeO.refl _)
      | (with_reducible exact LeO.none _)
      | (with_reducible refine LeO.ite ?_ ?_)
      | (with_reducible refine LeO.bind ?_ (fun _ => ?_))
      | exact ih0 _ _ _ _ _ _ _ _
      | exact ih1 _ _ _ _
      | exact ih2 _ _ _ _ _ _ _
      | exact ih3 _ _ _ _ _ _ _ _ _
      | exact glossatorlaw3_chunkExample.mono _
      | exact glossatorref3_EqualChunks.mono _ _ _
      | exact glossatorref3_Equal_int.mono _ _ _
      | exact glossatorref3_Percentages.mono _ _ _ _
      | exact glossatorref3_Split.mono _ _ _ _
      | exact progress_Percentages.mono _ _ _ _
      | exact LeO.none _
      | refine LeO.ite ?_ ?_
      | refine LeO.bind ?_ (fun _ => ?_)
    · intro y0 y1 y2 y3 y4 y5 y6
      unfold glossatorlaw3_ProgressSplit.j3
      repeat' first
      | (with_reducible exact ih0 _ _ _ _ _ _ _ _)
      | (with_reducible exact ih1 _ _ _ _)
      | (with_reducible exact ih2 _ _ _ _ _ _ _)
      | (with_reducible exact ih3 _ _ _ _ _ _ _ _ _)
      | (with_reducible exact glossatorlaw3_chunkExample.mono _)
      | (with_reducible exact glossatorref3_EqualChunks.mono _ _ _)
      | (with_reducible exact glossatorref3_Equal_int.mono _ _ _)
      | (with_reducible exact glossatorref3_Percentages.mono _ _ _ _)
      | (with_reducible exact glossatorref3_Split.mono _ _ _ _)
      | (with_reducible exact progress_Percentages.mono _ _ _ _)
      | (with_reducible exact LeO.refl _)
      | (with_reducible exact LeO.none _)
      | (with_reducible refine LeO.ite ?_ ?_)
      | (with_reducible refine LeO.bind ?_ (fun _ => ?_))
      | exact ih0 _ _ _ _ _ _ _ _
      | exact ih1 _ _ _ _
      | exact ih2 _ _ _ _ _ _ _
      | exact ih3 _ _ _ _ _ _ _ _ _
      | exact glossatorlaw3_chunkExample.mono _
      | exact glossatorref3_EqualChunks.mono _ _ _
      | exact glossatorref3_Equal_int.mono _ _ _
      | exact glossatorref3_Percentages.mono _ _ _ _
      | exact glossatorref3_Split.mono _ _ _ _
      | exact progress_Percentages.mono _ _ _ _
      | exact LeO.none _
      | refine LeO.ite ?_ ?_
      | refine LeO.bind ?_ (fun _ => ?_)
    · intro y0 y1 y2 y3 y4 y5 y6 y7 y8
      unfold glossatorlaw3_ProgressSplit.j0
      repeat' first
      | (with_reducible exact ih0 _ _ _ _ _ _ _ _)
      | (with_reducible exact ih1 _ _ _ _)
      | (with_reducible exact ih2 _ _ _ _ _ _ _)
      | (with_reducible exact ih3 _ _ _ _ _ _ _ _ _)
      | (with_reducible exact glossatorlaw3_chunkExample.mono _)
      | (with_reducible exact glossatorref3_EqualChunks.mono _ _ _)
      | (with_reducible exact glossatorref3_Equal_int.mono _ _ _)
      | (with_reducible exact glossatorref3_Percentages.mono _ _ _ _)
      | (with_reducible exact glossatorref3_Split.mono _ _ _ _)
      | (with_reducible exact progress_Percentages.mono _ _ _ _)
      | (with_reducible exact LeO.refl _)
      | (with_reducible exact LeO.none _)
      | (with_reducible refine LeO.ite ?_ ?_)
      | (with_reducible refine LeO.bind ?_ (fun _ => ?_))
      | exact ih0 _ _ _ _ _ _ _ _
      | exact ih1 _ _ _ _
      | exact ih2 _ _ _ _ _ _ _
      | exact ih3 _ _ _ _ _ _ _ _ _
      | exact glossatorlaw3_chunkExample.mono _
      | exact glossatorref3_EqualChunks.mono _ _ _
      | exact glossatorref3_Equal_int.mono _ _ _
      | exact glossatorref3_Percentages.mono _ _ _ _
      | exact glossatorref3_Split.mono _ _ _ _
      | exact progress_Percentages.mono _ _ _ _
      | exact LeO.none _
      | refine LeO.ite ?_ ?_
      | refine LeO.bind ?_ (fun _ => ?_)
theorem glossatorlaw3_ProgressSplit.mono : ∀ a0 a1 a2 a3 a4 k, LeO (glossatorlaw3_ProgressSplit.f k a0 a1 a2 a3 a4) (glossatorlaw3_ProgressSplit.f (k + 1) a0 a1 a2 a3 a4) := by
  intro a0 a1 a2 a3 a4 k
  obtain ⟨ih0, ih1, ih2, ih3⟩ := glossatorlaw3_ProgressSplit.mono_l k
  unfold glossatorlaw3_ProgressSplit.f
  repeat' first
      | (with_reducible exact ih0 _ _ _ _ _ _ _ _)
      | (with_reducible exact ih1 _ _ _ _)
      | (with_reducible exact ih2 _ _ _ _ _ _ _)
      | (with_reducible exact ih3 _ _ _ _ _ _ _ _ _)
      | (with_reducible exact glossatorlaw3_chunkExample.mono _)
      | (with_reducible exact glossatorref3_EqualChunks.mono _ _ _)
      | (with_reducible exact glossatorref3_Equal_int.mono _ _ _)
      | (with_reducible exact glossatorref3_Percentages.mono _ _ _ _)
      | (with_reducible exact glossatorref3_Split.mono _ _ _ _)
      | (with_reducible exact progress_Percentages.mono _ _ _ _)
      | (with_reducible exact LeO.refl _)
      | (with_reducible exact LeO.none _)
      | (with_reducible refine LeO.ite ?_ ?_)
      | (with_reducible refine LeO.bind ?_ (fun _ => ?_))
      | exact ih0 _ _ _ _ _ _ _ _
      | exact ih1 _ _ _ _
      | exact ih2 _ _ _ _ _ _ _
      | exact ih3 _ _ _ _ _ _ _ _ _
      | exact glossatorlaw3_chunkExample.mono _
      | exact glossatorref3_EqualChunks.mono _ _ _
      | exact glossatorref3_Equal_int.mono _ _ _
      | exact glossatorref3_Percentages.mono _ _ _ _
      | exact glossatorref3_Split.mono _ _ _ _
      | exact progress_Percentages.mono _ _ _ _
      | exact LeO.none _
      | refine LeO.ite ?_ ?_
      | refine LeO.bind ?_ (fun _ => ?_)
set_option maxHeartbeats 8000000 in
set_option maxRecDepth 100000 in
theorem glossatorlaw3_ProgressSplit.calls (k : Nat) (a0 : Int) (A1 : Option Addr) (c1 : Nat) (l1 : List Int) (a2 : Int) (a3 : Int) (a4 : Int) (r : Bool) (w : World) (hr1 : Kd.C (Kd.int .i64) w A1 l1.length l1) (hc1 : l1.length ≤ c1) (h : glossatorlaw3_ProgressSplit.f k a0 l1 a2 a3 a4 = some r) :
    Calls Try.prog 3 #[.int .i64 a0, .slice A1 l1.length c1, .int .i64 a2, .int .i64 a3, .int .i64 a4] w fun e w' => e = .returned (.bool r) ∧ Below w.heap.size w w' := by
  have HR1 := Aside0.mk hr1
  have HC1 := Aside0.mk hc1
  clear hr1 hc1
  have HB := Aside0.mk (Below.refl w.heap.size w)
  have H : ((glossatorlaw3_chunkExample.f k).bind fun t192 => (if t192 = true then ((progress_Split.f a0 l1 a2).bind fun bt193 => (if a0 < 0 then (glossatorlaw3_ProgressSplit.j0 k a0 l1 a2 a3 a4 bt193.1 bt193.2 0 true) else (glossatorlaw3_ProgressSplit.j0 k a0 l1 a2 a3 a4 bt193.1 bt193.2 0 (decide (a2 < 1))))) else (some false))) = some r := h
  clear h
  replace H := Option.bind_eq_some_iff.mp H
  obtain ⟨t192, A60, H⟩ := H
  replace H : (if t192 = true then ((progress_Split.f a0 l1 a2).bind fun bt193 => (if a0 < 0 then (glossatorlaw3_ProgressSplit.j0 k a0 l1 a2 a3 a4 bt193.1 bt193.2 0 true) else (glossatorlaw3_ProgressSplit.j0 k a0 l1 a2 a3 a4 bt193.1 bt193.2 0 (decide (a2 < 1))))) else (some false)) = some r := H
  have A6 := Aside0.mk A60
  clear A60
  by_cases c7 : t192 = true
  · subst c7
    have H1 : ((progress_Split.f a0 l1 a2).bind fun bt193 => (if a0 < 0 then (glossatorlaw3_ProgressSplit.j0 k a0 l1 a2 a3 a4 bt193.1 bt193.2 0 true) else (glossatorlaw3_ProgressSplit.j0 k a0 l1 a2 a3 a4 bt193.1 bt193.2 0 (decide (a2 < 1))))) = some r := by rw [if_pos rfl] at H; exact H
    clear H
    have H := H1
    clear H1
    replace H := Option.bind_eq_some_iff.mp H
    obtain ⟨⟨t193, t194⟩, A80, H⟩ := H
    replace H : (if a0 < 0 then (glossatorlaw3_ProgressSplit.j0 k a0 l1 a2 a3 a4 t193 t194 0 true) else (glossatorlaw3_ProgressSplit.j0 k a0 l1 a2 a3 a4 t193 t194 0 (decide (a2 < 1)))) = some r := H
    have A8 := Aside0.mk A80
    clear A80
    have HC9 := Aside0.mk H
    clear H
    go_enter Try.func3, Try.ntmps3
    go_upto_block 0 with (first | ((with_reducible refine gate_callee (f := 15) rfl ?_); refine goesL_ (some 16) rfl rfl Try.func15 (by kernel_rfl) rfl #[] rfl (by (try simp only [List.map_toArray, List.map_cons, List.map_nil]); first | done | rfl | (simp only [List.length_drop, List.length_take]; rfl)) ?_; (with_reducible refine (glossatorlaw3_chunkExample.calls k  true _ A6.out).mono ?_); rintro e w10 ⟨rfl, hb⟩; refine ⟨_, rfl, ?_⟩; have n0_ := Aside0.mk (below_step (by repeat (first | (with_reducible first | exact HB.out | apply below_alloc | apply pw_below_drewN | apply below_drew1) | exact HB.out)) hb); clear HB; have HB := n0_; clear n0_; (try clear hb); (try clear hb2); (try clear hk); (try clear hi)) | ((with_reducible refine gate_callee (f := 16) rfl ?_); refine goesL_ (some 22) rfl rfl Try.func16 (by kernel_rfl) rfl #[.int .i64 a0, .slice A1 l1.length c1, .int .i64 a2] rfl (by (try simp only [List.map_toArray, List.map_cons, List.map_nil]); first | done | rfl | (simp only [List.length_drop, List.length_take]; rfl)) ?_; (with_reducible refine (progress_Split.calls a0 _ _ l1 a2 t193 t194 _ ?side1 ?side2 A8.out).mono ?_); (case side1 => repeat (first | exact (Kd.C_below HR1.out HB.out) | (with_reducible refine Kd.C_alloc ?_ _) | (with_reducible refine Kd.C_drewN ?_ _) | (with_reducible refine Kd.C_drew ?_))); (case side2 => exact HC1.out); rintro e w11 ⟨v195, rfl, ho0, hb⟩; refine ⟨_, rfl, ?_⟩; have n0_ := Aside0.mk (Kd.S_lower ho0 (below_size (by repeat (first | (with_reducible first | exact HB.out | apply below_alloc | apply pw_below_drewN | apply below_drew1) | exact HB.out)))); have n1_ := Aside0.mk (below_step (by repeat (first | (with_reducible first | exact HB.out | apply below_alloc | apply pw_below_drewN | apply below_drew1) | exact HB.out)) hb); clear HB; have HO196 := n0_; have HB := n1_; clear n0_ n1_; (try clear hb); (try clear hb2); (try clear hk); (try clear hi); (try clear ho0)))
    (try simp only [Act.put, List.setIfInBounds_toArray, List.set_cons_zero, List.set_cons_succ])
    go_cut [13] (fun v13 wc => ∃ (kq : Nat) (x13_8 : Int), v13 = .int .i64 x13_8 ∧ Aside0 (glossatorlaw3_ProgressSplit.j1 kq a0 l1 a2 a3 a4 t193 t194 x13_8 = some r) ∧ Aside0 (kq ≤ k) ∧ Aside0 (Kd.S k85 85 wc w.heap.size (fun _ => True) v195 t193) ∧ Aside0 (Below w.heap.size w wc))
    case first =>
      have H := HC9.out
      clear HC9
      have HC12 := Aside0.mk H
      clear H
      go_upto_region 5 with (fail)
      go_cut [25] (fun v25 wc => ∃ (kq : Nat) (x25_11 : Bool), v25 = .bool x25_11 ∧ Aside0 (glossatorlaw3_ProgressSplit.j0 kq a0 l1 a2 a3 a4 t193 t194 0 x25_11 = some r) ∧ Aside0 (kq ≤ k) ∧ Aside0 (Kd.S k85 85 wc w.heap.size (fun _ => True) v195 t193) ∧ Aside0 (Below w.heap.size w wc))
      case first =>
        have H := HC12.out
        clear HC12
        by_cases c13 : a0 < 0
        · rw [if_pos c13] at H
          have c13b0 : decide (a0 < 0) = true := decide_eq_true c13
          clear c13
          (first | rw [c13b0] | (simp only [i64_w, i32_w]; rw [c13b0]) | skip)
          have H' := Aside0.mk H
          clear H
          go_wp2
          go_meet
          case rel => exact ⟨_, (true), (by first | rfl | (simp; done) | (simp [*]; done) | (simp [isEmpty_bne]; done)), H', ⟨by first | omega | exact Nat.le_refl _⟩, ⟨by (with_reducible repeat (first | apply Kd.S_alloc | apply Kd.S_drewN | apply Kd.S_drew)); exact HO196.out⟩, ⟨by repeat (first | (with_reducible first | exact HB.out | apply below_alloc | apply pw_below_drewN | apply below_drew1) | exact HB.out)⟩⟩
        · rw [if_neg c13] at H
          have c13b0 : decide (a0 < 0) = false := decide_eq_false c13
          clear c13
          (first | rw [c13b0] | (simp only [i64_w, i32_w]; rw [c13b0]) | skip)
          have H' := Aside0.mk H
          clear H
          go_wp2
          go_meet
          case rel => exact ⟨_, (decide (a2 < 1)), (by first | rfl | (simp; done) | (simp [*]; done) | (simp [isEmpty_bne]; done)), H', ⟨by first | omega | exact Nat.le_refl _⟩, ⟨by (with_reducible repeat (first | apply Kd.S_alloc | apply Kd.S_drewN | apply Kd.S_drew)); exact HO196.out⟩, ⟨by repeat (first | (with_reducible first | exact HB.out | apply below_alloc | apply pw_below_drewN | apply below_drew1) | exact HB.out)⟩⟩
      case rest =>
        clear HC12
        try clear c1
        try clear p2
        try clear c3
        try clear c7
        try clear c13
        try clear c13b0
        obtain ⟨kq, x25_11, rfl, HA, HJ11, HO_11, HB⟩ := hcut
        cases kq with
        | zero => exact absurd HA.out (by simp [glossatorlaw3_ProgressSplit.j0])
        | succ kj11 =>
          have H := HA.out
          clear HA
          simp only [glossatorlaw3_ProgressSplit.j0] at H
          by_cases c14 : x25_11 = true
          · subst c14
            have H1 : (glossatorlaw3_ProgressSplit.j1 kj11 a0 l1 a2 a3 a4 t193 t194 1) = some r := by rw [if_pos rfl] at H; exact H
            clear H
            have H := H1
            clear H1
            have H' := Aside0.mk H
            clear H
            go_wp2
            go_meet
            case rel => exact ⟨_, (1), (by first | rfl | (simp; done) | (simp [*]; done) | (simp [isEmpty_bne]; done)), H', ⟨by have := HJ11.out; first | omega | exact Nat.le_refl _⟩, ⟨by (with_reducible repeat (first | apply Kd.S_alloc | apply Kd.S_drewN | apply Kd.S_drew)); exact HO_11.out⟩, ⟨by repeat (first | (with_reducible first | exact HB.out | apply below_alloc | apply pw_below_drewN | apply below_drew1) | exact HB.out)⟩⟩
          · replace c14 := Bool.eq_false_iff.mpr c14
            subst c14
            have H1 : (if (l1.length : Int) > 1000 then (glossatorlaw3_ProgressSplit.j1 kj11 a0 l1 a2 a3 a4 t193 t194 2) else (glossatorlaw3_ProgressSplit.j1 kj11 a0 l1 a2 a3 a4 t193 t194 0)) = some r := by rw [if_neg (show ¬ (false = true) by decide)] at H; exact H
            clear H
            have H := H1
            clear H1
            by_cases c15 : (l1.length : Int) > 1000
            · rw [if_pos c15] at H
              have c15b0 : decide (1000 < (l1.length : Int)) = true := decide_eq_true c15
              have c15b1 : decide (1000 < l1.length) = true := decide_eq_true (by omega)
              clear c15
              have H' := Aside0.mk H
              clear H
              go_wp2
              go_meet
              case rel => exact ⟨_, (2), (by first | rfl | (simp; done) | (simp [*]; done) | (simp [isEmpty_bne]; done)), H', ⟨by have := HJ11.out; first | omega | exact Nat.le_refl _⟩, ⟨by (with_reducible repeat (first | apply Kd.S_alloc | apply Kd.S_drewN | apply Kd.S_drew)); exact HO_11.out⟩, ⟨by repeat (first | (with_reducible first | exact HB.out | apply below_alloc | apply pw_below_drewN | apply below_drew1) | exact HB.out)⟩⟩
            · rw [if_neg c15] at H
              have c15b0 : decide (1000 < (l1.length : Int)) = false := decide_eq_false c15
              have c15b1 : decide (1000 < l1.length) = false := decide_eq_false (by omega)
              clear c15
              have H' := Aside0.mk H
              clear H
              go_wp2
              go_meet
              case rel => exact ⟨_, (0), (by first | rfl | (simp; done) | (simp [*]; done) | (simp [isEmpty_bne]; done)), H', ⟨by have := HJ11.out; first | omega | exact Nat.le_refl _⟩, ⟨by (with_reducible repeat (first | apply Kd.S_alloc | apply Kd.S_drewN | apply Kd.S_drew)); exact HO_11.out⟩, ⟨by repeat (first | (with_reducible first | exact HB.out | apply below_alloc | apply pw_below_drewN | apply below_drew1) | exact HB.out)⟩⟩
    case rest =>
      clear HC9
      try clear c1
      try clear p2
      try clear c3
      try clear c7
      try clear c13
      try clear c13b0
      try clear c14
      try clear c15
      try clear c15b0
      try clear c15b1
      try clear p2
      obtain ⟨kq, x13_8, rfl, HA, HJ8, HO_11, HB⟩ := hcut
      cases kq with
      | zero => exact absurd HA.out (by simp [glossatorlaw3_ProgressSplit.j1])
      | succ kj8 =>
        have H := HA.out
        clear HA
        simp only [glossatorlaw3_ProgressSplit.j1] at H
        have HC16 := Aside0.mk H
        clear H
        go_upto_region 9 with (fail)
        go_cut [60] (fun v60 wc => ∃ (kq : Nat) (x60_15 : Bool), v60 = .bool x60_15 ∧ Aside0 (glossatorlaw3_ProgressSplit.j2 kq l1 a3 a4 x60_15 = some r) ∧ Aside0 (kq ≤ kj8) ∧ Aside0 (Below w.heap.size w wc))
        case first =>
          have H := HC16.out
          clear HC16
          by_cases c17 : t194 = x13_8
          · rw [if_pos c17] at H
            have c17b0 : (t194 == x13_8) = true := beq_iff_eq.mpr c17
            have c17b1 : (t194 != x13_8) = false := bne_eq_false_iff_eq.mpr c17
            clear c17
            (first | rw [c17b0] | (simp only [i64_w, i32_w]; rw [c17b0]) | skip)
            by_cases c18 : x13_8 = 0
            · rw [if_pos c18] at H
              have c18b0 : (x13_8 == 0) = true := beq_iff_eq.mpr c18
              have c18b1 : (x13_8 != 0) = false := bne_eq_false_iff_eq.mpr c18
              clear c18
              replace H := Option.bind_eq_some_iff.mp H
              obtain ⟨t197, A190, H⟩ := H
              replace H : ((glossatorref3_EqualChunks.f kj8 t193 t197).bind fun t200 => (if t200 = true then (glossatorlaw3_ProgressSplit.j2 kj8 l1 a3 a4 false) else (glossatorlaw3_ProgressSplit.j2 kj8 l1 a3 a4 true))) = some r := H
              have A19 := Aside0.mk A190
              clear A190
              replace H := Option.bind_eq_some_iff.mp H
              obtain ⟨t200, A200, H⟩ := H
              replace H : (if t200 = true then (glossatorlaw3_ProgressSplit.j2 kj8 l1 a3 a4 false) else (glossatorlaw3_ProgressSplit.j2 kj8 l1 a3 a4 true)) = some r := H
              have A20 := Aside0.mk A200
              clear A200
              by_cases c21 : t200 = true
              · subst c21
                have H1 : (glossatorlaw3_ProgressSplit.j2 kj8 l1 a3 a4 false) = some r := by rw [if_pos rfl] at H; exact H
                clear H
                have H := H1
                clear H1
                have H' := Aside0.mk H
                clear H
                go_wp2_with (first | (go_at_call 18; (with_reducible refine (glossatorref3_Split.calls kj8 a0 (fun k_ => k_ < w.heap.size) _ _ l1 a2 t197 _ ?side1 A19.out).mono ?_); (case side1 => exact Kd.V_mk HC1.out (Kd.F_below (Kd.C_F (Kd.heap_int .i64) HR1.out) (by repeat (first | (with_reducible first | exact HB.out | apply below_alloc | apply pw_below_drewN | apply below_drew1) | exact HB.out)))); rintro e w22 ⟨v198, rfl, ho0, hb⟩; have n0_ := Aside0.mk (Kd.S_elder' (by (with_reducible repeat (first | apply Kd.S_alloc | apply Kd.S_drewN | apply Kd.S_drew)); exact HO_11.out) (Kd.S_base ho0) hb); have n1_ := Aside0.mk (Kd.S_lower (Kd.S_new' (Kd.S_mono (ok' := fun k_ => True) ho0 (fun _ hk_ => trivial)) (Kd.S_lt (by (with_reducible repeat (first | apply Kd.S_alloc | apply Kd.S_drewN | apply Kd.S_drew)); exact HO_11.out))) (below_size (by repeat (first | (with_reducible first | exact HB.out | apply below_alloc | apply pw_below_drewN | apply below_drew1) | exact HB.out)))); have n2_ := Aside0.mk (below_step (by repeat (first | (with_reducible first | exact HB.out | apply below_alloc | apply pw_below_drewN | apply below_drew1) | exact HB.out)) hb); clear HO_11; clear HB; have HO_11 := n0_; have HO199 := n1_; have HB := n2_; clear n0_ n1_ n2_; (try clear hb); (try clear hb2); (try clear hk); (try clear hi); (try clear ho0); obtain ⟨Ao23, co23, eo23⟩ := Kd.S_slice HO_11.out; subst eo23; obtain ⟨Ao24, co24, eo24⟩ := Kd.S_slice HO199.out; subst eo24) | (go_at_call 17; (with_reducible refine (glossatorref3_EqualChunks.calls kj8 _ _ t193 _ _ t197 true _ ?side1 ?side2 ?side3 ?side4 A20.out).mono ?_); (case side1 => repeat (first | exact (Kd.S_reads' HO_11.out).2.2 | (with_reducible refine Kd.C_alloc ?_ _) | (with_reducible refine Kd.C_drewN ?_ _) | (with_reducible refine Kd.C_drew ?_))); (case side2 => exact (Kd.S_reads' HO_11.out).2.1); (case side3 => repeat (first | exact (Kd.S_reads' HO199.out).2.2 | (with_reducible refine Kd.C_alloc ?_ _) | (with_reducible refine Kd.C_drewN ?_ _) | (with_reducible refine Kd.C_drew ?_))); (case side4 => exact (Kd.S_reads' HO199.out).2.1); rintro e w25 ⟨rfl, hb⟩; have n0_ := Aside0.mk (Kd.S_below (by (with_reducible repeat (first | apply Kd.S_alloc | apply Kd.S_drewN | apply Kd.S_drew)); exact HO_11.out) hb); have n1_ := Aside0.mk (Kd.S_below (by (with_reducible repeat (first | apply Kd.S_alloc | apply Kd.S_drewN | apply Kd.S_drew)); exact HO199.out) hb); have n2_ := Aside0.mk (below_step (by repeat (first | (with_reducible first | exact HB.out | apply below_alloc | apply pw_below_drewN | apply below_drew1) | exact HB.out)) hb); clear HO_11; clear HO199; clear HB; have HO_11 := n0_; have HO199 := n1_; have HB := n2_; clear n0_ n1_ n2_; (try clear hb); (try clear hb2); (try clear hk); (try clear hi)))
                go_meet
                case rel => exact ⟨_, (false), (by first | rfl | (simp; done) | (simp [*]; done) | (simp [isEmpty_bne]; done)), H', ⟨by have := HJ8.out; first | omega | exact Nat.le_refl _⟩, ⟨by repeat (first | (with_reducible first | exact HB.out | apply below_alloc | apply pw_below_drewN | apply below_drew1) | exact HB.out)⟩⟩
              · replace c21 := Bool.eq_false_iff.mpr c21
                subst c21
                have H1 : (glossatorlaw3_ProgressSplit.j2 kj8 l1 a3 a4 true) = some r := by rw [if_neg (show ¬ (false = true) by decide)] at H; exact H
                clear H
                have H := H1
                clear H1
                have H' := Aside0.mk H
                clear H
                go_wp2_with (first | (go_at_call 18; (with_reducible refine (glossatorref3_Split.calls kj8 a0 (fun k_ => k_ < w.heap.size) _ _ l1 a2 t197 _ ?side1 A19.out).mono ?_); (case side1 => exact Kd.V_mk HC1.out (Kd.F_below (Kd.C_F (Kd.heap_int .i64) HR1.out) (by repeat (first | (with_reducible first | exact HB.out | apply below_alloc | apply pw_below_drewN | apply below_drew1) | exact HB.out)))); rintro e w26 ⟨v198, rfl, ho0, hb⟩; have n0_ := Aside0.mk (Kd.S_elder' (by (with_reducible repeat (first | apply Kd.S_alloc | apply Kd.S_drewN | apply Kd.S_drew)); exact HO_11.out) (Kd.S_base ho0) hb); have n1_ := Aside0.mk (Kd.S_lower (Kd.S_new' (Kd.S_mono (ok' := fun k_ => True) ho0 (fun _ hk_ => trivial)) (Kd.S_lt (by (with_reducible repeat (first | apply Kd.S_alloc | apply Kd.S_drewN | apply Kd.S_drew)); exact HO_11.out))) (below_size (by repeat (first | (with_reducible first | exact HB.out | apply below_alloc | apply pw_below_drewN | apply below_drew1) | exact HB.out)))); have n2_ := Aside0.mk (below_step (by repeat (first | (with_reducible first | exact HB.out | apply below_alloc | apply pw_below_drewN | apply below_drew1) | exact HB.out)) hb); clear HO_11; clear HB; have HO_11 := n0_; have HO199 := n1_; have HB := n2_; clear n0_ n1_ n2_; (try clear hb); (try clear hb2); (try clear hk); (try clear hi); (try clear ho0); obtain ⟨Ao27, co27, eo27⟩ := Kd.S_slice HO_11.out; subst eo27; obtain ⟨Ao28, co28, eo28⟩ := Kd.S_slice HO199.out; subst eo28) | (go_at_call 17; (with_reducible refine (glossatorref3_EqualChunks.calls kj8 _ _ t193 _ _ t197 false _ ?side1 ?side2 ?side3 ?side4 A20.out).mono ?_); (case side1 => repeat (first | exact (Kd.S_reads' HO_11.out).2.2 | (with_reducible refine Kd.C_alloc ?_ _) | (with_reducible refine Kd.C_drewN ?_ _) | (with_reducible refine Kd.C_drew ?_))); (case side2 => exact (Kd.S_reads' HO_11.out).2.1); (case side3 => repeat (first | exact (Kd.S_reads' HO199.out).2.2 | (with_reducible refine Kd.C_alloc ?_ _) | (with_reducible refine Kd.C_drewN ?_ _) | (with_reducible refine Kd.C_drew ?_))); (case side4 => exact (Kd.S_reads' HO199.out).2.1); rintro e w29 ⟨rfl, hb⟩; have n0_ := Aside0.mk (Kd.S_below (by (with_reducible repeat (first | apply Kd.S_alloc | apply Kd.S_drewN | apply Kd.S_drew)); exact HO_11.out) hb); have n1_ := Aside0.mk (Kd.S_below (by (with_reducible repeat (first | apply Kd.S_alloc | apply Kd.S_drewN | apply Kd.S_drew)); exact HO199.out) hb); have n2_ := Aside0.mk (below_step (by repeat (first | (with_reducible first | exact HB.out | apply below_alloc | apply pw_below_drewN | apply below_drew1) | exact HB.out)) hb); clear HO_11; clear HO199; clear HB; have HO_11 := n0_; have HO199 := n1_; have HB := n2_; clear n0_ n1_ n2_; (try clear hb); (try clear hb2); (try clear hk); (try clear hi)))
                go_meet
                case rel => exact ⟨_, (true), (by first | rfl | (simp; done) | (simp [*]; done) | (simp [isEmpty_bne]; done)), H', ⟨by have := HJ8.out; first | omega | exact Nat.le_refl _⟩, ⟨by repeat (first | (with_reducible first | exact HB.out | apply below_alloc | apply pw_below_drewN | apply below_drew1) | exact HB.out)⟩⟩
            · rw [if_neg c18] at H
              have c18b0 : (x13_8 == 0) = false := beq_eq_false_iff_ne.mpr c18
              have c18b1 : (x13_8 != 0) = true := bne_iff_ne.mpr c18
              have H' := Aside0.mk H
              clear H
              obtain ⟨Ao30, co30, eo30⟩ := Kd.S_slice HO_11.out
              subst eo30
              go_wp2
              go_meet
              case rel => exact ⟨_, (decide ((t193.length : Int) > 0)), (by first | rfl | (simp; done) | (simp [*]; done) | (simp [isEmpty_bne]; done)), H', ⟨by have := HJ8.out; first | omega | exact Nat.le_refl _⟩, ⟨by repeat (first | (with_reducible first | exact HB.out | apply below_alloc | apply pw_below_drewN | apply below_drew1) | exact HB.out)⟩⟩
          · rw [if_neg c17] at H
            have c17b0 : (t194 == x13_8) = false := beq_eq_false_iff_ne.mpr c17
            have c17b1 : (t194 != x13_8) = true := bne_iff_ne.mpr c17
            (first | rw [c17b0] | (simp only [i64_w, i32_w]; rw [c17b0]) | skip)
            have H' := Aside0.mk H
            clear H
            go_wp2
            go_meet
            case rel => exact ⟨_, (true), (by first | rfl | (simp; done) | (simp [*]; done) | (simp [isEmpty_bne]; done)), H', ⟨by have := HJ8.out; first | omega | exact Nat.le_refl _⟩, ⟨by repeat (first | (with_reducible first | exact HB.out | apply below_alloc | apply pw_below_drewN | apply below_drew1) | exact HB.out)⟩⟩
        case rest =>
          clear HC16
          try clear c1
          try clear c2
          try clear p2
          try clear c3
          try clear c7
          try clear c13
          try clear c13b0
          try clear c14
          try clear c15
          try clear c15b0
          try clear c15b1
          try clear c16
          try clear c17
          try clear c17b0
          try clear c17b1
          try clear c18
          try clear c18b0
          try clear c18b1
          try clear c21
          try clear p2
          obtain ⟨kq, x60_15, rfl, HA, HJ15, HB⟩ := hcut
          cases kq with
          | zero => exact absurd HA.out (by simp [glossatorlaw3_ProgressSplit.j2])
          | succ kj15 =>
            have H := HA.out
            clear HA
            simp only [glossatorlaw3_ProgressSplit.j2] at H
            by_cases c31 : x60_15 = true
            · subst c31
              have H1 : (some false) = some r := by rw [if_pos rfl] at H; exact H
              clear H
              have H := H1
              clear H1
              obtain rfl := Option.some.inj H
              go_wp2
              go_ret
              exact ⟨by first | rfl | (simp [errW_none, errW_some] <;> rfl) | (simp [*, errW_none, errW_some] <;> rfl), by repeat (first | (with_reducible first | exact HB.out | apply below_alloc | apply pw_below_drewN | apply below_drew1) | exact HB.out)⟩
            · replace c31 := Bool.eq_false_iff.mpr c31
              subst c31
              have H1 : ((progress_Percentages.f kj15 l1 a3 a4).bind fun bt201 => (if a3 < 1 then (glossatorlaw3_ProgressSplit.j3 kj15 l1 a3 a4 0 bt201.1 bt201.2 true) else (if a3 > 2147483647 then (glossatorlaw3_ProgressSplit.j3 kj15 l1 a3 a4 0 bt201.1 bt201.2 true) else (if a4 < 1 then (glossatorlaw3_ProgressSplit.j3 kj15 l1 a3 a4 0 bt201.1 bt201.2 true) else (glossatorlaw3_ProgressSplit.j3 kj15 l1 a3 a4 0 bt201.1 bt201.2 (decide (a4 > 100))))))) = some r := by rw [if_neg (show ¬ (false = true) by decide)] at H; exact H
              clear H
              have H := H1
              clear H1
              replace H := Option.bind_eq_some_iff.mp H
              obtain ⟨⟨t201, t202⟩, A320, H⟩ := H
              replace H : (if a3 < 1 then (glossatorlaw3_ProgressSplit.j3 kj15 l1 a3 a4 0 t201 t202 true) else (if a3 > 2147483647 then (glossatorlaw3_ProgressSplit.j3 kj15 l1 a3 a4 0 t201 t202 true) else (if a4 < 1 then (glossatorlaw3_ProgressSplit.j3 kj15 l1 a3 a4 0 t201 t202 true) else (glossatorlaw3_ProgressSplit.j3 kj15 l1 a3 a4 0 t201 t202 (decide (a4 > 100)))))) = some r := H
              have A32 := Aside0.mk A320
              clear A320
              have HC33 := Aside0.mk H
              clear H
              go_upto_region 13 with (first | ((with_reducible refine gate_callee (f := 19) rfl ?_); refine goesL_ (some 65) rfl rfl Try.func19 (by kernel_rfl) rfl #[.slice A1 l1.length c1, .int .i64 a3, .int .i64 a4] rfl (by (try simp only [List.map_toArray, List.map_cons, List.map_nil]); first | done | rfl | (simp only [List.length_drop, List.length_take]; rfl)) ?_; (with_reducible refine (progress_Percentages.calls kj15 _ _ l1 a3 a4 t201 t202 _ ?side1 ?side2 A32.out).mono ?_); (case side1 => repeat (first | exact (Kd.C_below HR1.out HB.out) | (with_reducible refine Kd.C_alloc ?_ _) | (with_reducible refine Kd.C_drewN ?_ _) | (with_reducible refine Kd.C_drew ?_))); (case side2 => exact HC1.out); rintro e w34 ⟨v203, rfl, ho0, hb⟩; refine ⟨_, rfl, ?_⟩; have n0_ := Aside0.mk (Kd.R_lower ho0 (below_size (by repeat (first | (with_reducible first | exact HB.out | apply below_alloc | apply pw_below_drewN | apply below_drew1) | exact HB.out)))); have n1_ := Aside0.mk (below_step (by repeat (first | (with_reducible first | exact HB.out | apply below_alloc | apply pw_below_drewN | apply below_drew1) | exact HB.out)) hb); clear HB; have HO204 := n0_; have HB := n1_; clear n0_ n1_; (try clear hb); (try clear hb2); (try clear hk); (try clear hi); (try clear ho0)))
              (try simp only [Act.put, List.setIfInBounds_toArray, List.set_cons_zero, List.set_cons_succ])
              go_cut [68] (fun v68 wc => ∃ (kq : Nat) (x68_32 : Bool), v68 = .bool x68_32 ∧ Aside0 (glossatorlaw3_ProgressSplit.j3 kq l1 a3 a4 0 t201 t202 x68_32 = some r) ∧ Aside0 (kq ≤ kj15) ∧ Aside0 (Kd.R (Kd.int .i64) 3 wc w.heap.size (fun _ => True) v203 t201) ∧ Aside0 (Below w.heap.size w wc))
              case first =>
                have H := HC33.out
                clear HC33
                by_cases c35 : a3 < 1
                · rw [if_pos c35] at H
                  have c35b0 : decide (a3 < 1) = true := decide_eq_true c35
                  clear c35
                  (first | rw [c35b0] | (simp only [i64_w, i32_w]; rw [c35b0]) | skip)
                  have H' := Aside0.mk H
                  clear H
                  go_wp2
                  go_meet
                  case rel => exact ⟨_, (true), (by first | rfl | (simp; done) | (simp [*]; done) | (simp [isEmpty_bne]; done)), H', ⟨by have := HJ8.out; have := HJ15.out; first | omega | exact Nat.le_refl _⟩, ⟨by (with_reducible repeat (first | apply Kd.R_alloc | apply Kd.R_drewN | apply Kd.R_drew)); exact HO204.out⟩, ⟨by repeat (first | (with_reducible first | exact HB.out | apply below_alloc | apply pw_below_drewN | apply below_drew1) | exact HB.out)⟩⟩
                · rw [if_neg c35] at H
                  have c35b0 : decide (a3 < 1) = false := decide_eq_false c35
                  clear c35
                  (first | rw [c35b0] | (simp only [i64_w, i32_w]; rw [c35b0]) | skip)
                  by_cases c36 : a3 > 2147483647
                  · rw [if_pos c36] at H
                    have c36b0 : decide (2147483647 < a3) = true := decide_eq_true c36
                    clear c36
                    have H' := Aside0.mk H
                    clear H
                    go_wp2
                    go_meet
                    case rel => exact ⟨_, (true), (by first | rfl | (simp; done) | (simp [*]; done) | (simp [isEmpty_bne]; done)), H', ⟨by have := HJ8.out; have := HJ15.out; first | omega | exact Nat.le_refl _⟩, ⟨by (with_reducible repeat (first | apply Kd.R_alloc | apply Kd.R_drewN | apply Kd.R_drew)); exact HO204.out⟩, ⟨by repeat (first | (with_reducible first | exact HB.out | apply below_alloc | apply pw_below_drewN | apply below_drew1) | exact HB.out)⟩⟩
                  · rw [if_neg c36] at H
                    have c36b0 : decide (2147483647 < a3) = false := decide_eq_false c36
                    clear c36
                    by_cases c37 : a4 < 1
                    · rw [if_pos c37] at H
                      have c37b0 : decide (a4 < 1) = true := decide_eq_true c37
                      clear c37
                      have H' := Aside0.mk H
                      clear H
                      go_wp2
                      go_meet
                      case rel => exact ⟨_, (true), (by first | rfl | (simp; done) | (simp [*]; done) | (simp [isEmpty_bne]; done)), H', ⟨by have := HJ8.out; have := HJ15.out; first | omega | exact Nat.le_refl _⟩, ⟨by (with_reducible repeat (first | apply Kd.R_alloc | apply Kd.R_drewN | apply Kd.R_drew)); exact HO204.out⟩, ⟨by repeat (first | (with_reducible first | exact HB.out | apply below_alloc | apply pw_below_drewN | apply below_drew1) | exact HB.out)⟩⟩
                    · rw [if_neg c37] at H
                      have c37b0 : decide (a4 < 1) = false := decide_eq_false c37
                      clear c37
                      have H' := Aside0.mk H
                      clear H
                      go_wp2
                      go_meet
                      case rel => exact ⟨_, (decide (a4 > 100)), (by first | rfl | (simp; done) | (simp [*]; done) | (simp [isEmpty_bne]; done)), H', ⟨by have := HJ8.out; have := HJ15.out; first | omega | exact Nat.le_refl _⟩, ⟨by (with_reducible repeat (first | apply Kd.R_alloc | apply Kd.R_drewN | apply Kd.R_drew)); exact HO204.out⟩, ⟨by repeat (first | (with_reducible first | exact HB.out | apply below_alloc | apply pw_below_drewN | apply below_drew1) | exact HB.out)⟩⟩
              case rest =>
                clear HC33
                try clear c1
                try clear c2
                try clear p2
                try clear c3
                try clear c7
                try clear c13
                try clear c13b0
                try clear c14
                try clear c15
                try clear c15b0
                try clear c15b1
                try clear c16
                try clear c17
                try clear c17b0
                try clear c17b1
                try clear c18
                try clear c18b0
                try clear c18b1
                try clear c19
                try clear c21
                try clear c31
                try clear c35
                try clear c35b0
                try clear c36
                try clear c36b0
                try clear c37
                try clear c37b0
                try clear p2
                obtain ⟨kq, x68_32, rfl, HA, HJ32, HO_14, HB⟩ := hcut
                cases kq with
                | zero => exact absurd HA.out (by simp [glossatorlaw3_ProgressSplit.j3])
                | succ kj32 =>
                  have H := HA.out
                  clear HA
                  simp only [glossatorlaw3_ProgressSplit.j3] at H
                  by_cases c38 : x68_32 = true
                  · subst c38
                    have H1 : ((glossatorlaw3_chunkExample.f kj32).bind fun t205 => (if t205 = true then (if t202 = 1 then (if 1 = 0 then ((glossatorref3_Percentages.f kj32 l1 a3 a4).bind fun t206 => ((glossatorref3_Equal_int.f kj32 t201 t206).bind fun t209 => (if t209 = true then (some true) else (some false)))) else (some ((t201.length : Int) == 0))) else (some false)) else (some false))) = some r := by rw [if_pos rfl] at H; exact H
                    clear H
                    have H := H1
                    clear H1
                    replace H := Option.bind_eq_some_iff.mp H
                    obtain ⟨t205, A390, H⟩ := H
                    replace H : (if t205 = true then (if t202 = 1 then (if 1 = 0 then ((glossatorref3_Percentages.f kj32 l1 a3 a4).bind fun t206 => ((glossatorref3_Equal_int.f kj32 t201 t206).bind fun t209 => (if t209 = true then (some true) else (some false)))) else (some ((t201.length : Int) == 0))) else (some false)) else (some false)) = some r := H
                    have A39 := Aside0.mk A390
                    clear A390
                    by_cases c40 : t205 = true
                    · subst c40
                      have H1 : (if t202 = 1 then (if 1 = 0 then ((glossatorref3_Percentages.f kj32 l1 a3 a4).bind fun t206 => ((glossatorref3_Equal_int.f kj32 t201 t206).bind fun t209 => (if t209 = true then (some true) else (some false)))) else (some ((t201.length : Int) == 0))) else (some false)) = some r := by rw [if_pos rfl] at H; exact H
                      clear H
                      have H := H1
                      clear H1
                      by_cases c41 : t202 = 1
                      · rw [if_pos c41] at H
                        have c41b0 : (t202 == 1) = true := beq_iff_eq.mpr c41
                        have c41b1 : (t202 != 1) = false := bne_eq_false_iff_eq.mpr c41
                        clear c41
                        by_cases c42 : 1 = 0
                        · exact absurd c42 (by decide)
                        · first | rw [if_neg c42] at H | simp only [↓reduceIte] at H | skip
                          have c42b0 : (1 == 0) = false := beq_eq_false_iff_ne.mpr c42
                          have c42b1 : (1 != 0) = true := bne_iff_ne.mpr c42
                          obtain rfl := Option.some.inj H
                          go_wp2_with (first | ((with_reducible refine gate_callee (f := 15) rfl ?_); refine goesL_ (some 87) rfl rfl Try.func15 (by kernel_rfl) rfl #[] rfl (by (try simp only [List.map_toArray, List.map_cons, List.map_nil]); first | done | rfl | (simp only [List.length_drop, List.length_take]; rfl)) ?_; (with_reducible refine (glossatorlaw3_chunkExample.calls kj32  true _ A39.out).mono ?_); rintro e w54 ⟨rfl, hb⟩; refine ⟨_, rfl, ?_⟩; have n0_ := Aside0.mk (Kd.R_below (by (with_reducible repeat (first | apply Kd.R_alloc | apply Kd.R_drewN | apply Kd.R_drew)); exact HO_14.out) hb); have n1_ := Aside0.mk (below_step (by repeat (first | (with_reducible first | exact HB.out | apply below_alloc | apply pw_below_drewN | apply below_drew1) | exact HB.out)) hb); clear HO_14; clear HB; have HO_14 := n0_; have HB := n1_; clear n0_ n1_; (try clear hb); (try clear hb2); (try clear hk); (try clear hi); obtain ⟨Ao55, co55, eo55⟩ := Kd.R_slice HO_14.out; subst eo55))
                          go_ret
                          exact ⟨by first | rfl | (simp [errW_none, errW_some] <;> rfl) | (simp [*, errW_none, errW_some] <;> rfl), by repeat (first | (with_reducible first | exact HB.out | apply below_alloc | apply pw_below_drewN | apply below_drew1) | exact HB.out)⟩
                      · rw [if_neg c41] at H
                        have c41b0 : (t202 == 1) = false := beq_eq_false_iff_ne.mpr c41
                        have c41b1 : (t202 != 1) = true := bne_iff_ne.mpr c41
                        obtain rfl := Option.some.inj H
                        go_wp2_with (first | ((with_reducible refine gate_callee (f := 15) rfl ?_); refine goesL_ (some 87) rfl rfl Try.func15 (by kernel_rfl) rfl #[] rfl (by (try simp only [List.map_toArray, List.map_cons, List.map_nil]); first | done | rfl | (simp only [List.length_drop, List.length_take]; rfl)) ?_; (with_reducible refine (glossatorlaw3_chunkExample.calls kj32  true _ A39.out).mono ?_); rintro e w56 ⟨rfl, hb⟩; refine ⟨_, rfl, ?_⟩; have n0_ := Aside0.mk (Kd.R_below (by (with_reducible repeat (first | apply Kd.R_alloc | apply Kd.R_drewN | apply Kd.R_drew)); exact HO_14.out) hb); have n1_ := Aside0.mk (below_step (by repeat (first | (with_reducible first | exact HB.out | apply below_alloc | apply pw_below_drewN | apply below_drew1) | exact HB.out)) hb); clear HO_14; clear HB; have HO_14 := n0_; have HB := n1_; clear n0_ n1_; (try clear hb); (try clear hb2); (try clear hk); (try clear hi)))
                        go_ret
                        exact ⟨by first | rfl | (simp [errW_none, errW_some] <;> rfl) | (simp [*, errW_none, errW_some] <;> rfl), by repeat (first | (with_reducible first | exact HB.out | apply below_alloc | apply pw_below_drewN | apply below_drew1) | exact HB.out)⟩
                    · replace c40 := Bool.eq_false_iff.mpr c40
                      subst c40
                      have H1 : (some false) = some r := by rw [if_neg (show ¬ (false = true) by decide)] at H; exact H
                      clear H
                      have H := H1
                      clear H1
                      obtain rfl := Option.some.inj H
                      go_wp2_with (first | ((with_reducible refine gate_callee (f := 15) rfl ?_); refine goesL_ (some 87) rfl rfl Try.func15 (by kernel_rfl) rfl #[] rfl (by (try simp only [List.map_toArray, List.map_cons, List.map_nil]); first | done | rfl | (simp only [List.length_drop, List.length_take]; rfl)) ?_; (with_reducible refine (glossatorlaw3_chunkExample.calls kj32  false _ A39.out).mono ?_); rintro e w57 ⟨rfl, hb⟩; refine ⟨_, rfl, ?_⟩; have n0_ := Aside0.mk (Kd.R_below (by (with_reducible repeat (first | apply Kd.R_alloc | apply Kd.R_drewN | apply Kd.R_drew)); exact HO_14.out) hb); have n1_ := Aside0.mk (below_step (by repeat (first | (with_reducible first | exact HB.out | apply below_alloc | apply pw_below_drewN | apply below_drew1) | exact HB.out)) hb); clear HO_14; clear HB; have HO_14 := n0_; have HB := n1_; clear n0_ n1_; (try clear hb); (try clear hb2); (try clear hk); (try clear hi)))
                      go_ret
                      exact ⟨by first | rfl | (simp [errW_none, errW_some] <;> rfl) | (simp [*, errW_none, errW_some] <;> rfl), by repeat (first | (with_reducible first | exact HB.out | apply below_alloc | apply pw_below_drewN | apply below_drew1) | exact HB.out)⟩
                  · replace c38 := Bool.eq_false_iff.mpr c38
                    subst c38
                    have H1 : (if (l1.length : Int) > 1000 then ((glossatorlaw3_chunkExample.f kj32).bind fun t210 => (if t210 = true then (if t202 = 2 then (if 2 = 0 then ((glossatorref3_Percentages.f kj32 l1 a3 a4).bind fun t211 => ((glossatorref3_Equal_int.f kj32 t201 t211).bind fun t214 => (if t214 = true then (some true) else (some false)))) else (some ((t201.length : Int) == 0))) else (some false)) else (some false))) else ((glossatorlaw3_chunkExample.f kj32).bind fun t215 => (if t215 = true then (if t202 = 0 then (if 0 = 0 then ((glossatorref3_Percentages.f kj32 l1 a3 a4).bind fun t216 => ((glossatorref3_Equal_int.f kj32 t201 t216).bind fun t219 => (if t219 = true then (some true) else (some false)))) else (some ((t201.length : Int) == 0))) else (some false)) else (some false)))) = some r := by rw [if_neg (show ¬ (false = true) by decide)] at H; exact H
                    clear H
                    have H := H1
                    clear H1
                    by_cases c58 : (l1.length : Int) > 1000
                    · rw [if_pos c58] at H
                      have c58b0 : decide (1000 < (l1.length : Int)) = true := decide_eq_true c58
                      have c58b1 : decide (1000 < l1.length) = true := decide_eq_true (by omega)
                      clear c58
                      replace H := Option.bind_eq_some_iff.mp H
                      obtain ⟨t210, A590, H⟩ := H
                      replace H : (if t210 = true then (if t202 = 2 then (if 2 = 0 then ((glossatorref3_Percentages.f kj32 l1 a3 a4).bind fun t211 => ((glossatorref3_Equal_int.f kj32 t201 t211).bind fun t214 => (if t214 = true then (some true) else (some false)))) else (some ((t201.length : Int) == 0))) else (some false)) else (some false)) = some r := H
                      have A59 := Aside0.mk A590
                      clear A590
                      by_cases c60 : t210 = true
                      · subst c60
                        have H1 : (if t202 = 2 then (if 2 = 0 then ((glossatorref3_Percentages.f kj32 l1 a3 a4).bind fun t211 => ((glossatorref3_Equal_int.f kj32 t201 t211).bind fun t214 => (if t214 = true then (some true) else (some false)))) else (some ((t201.length : Int) == 0))) else (some false)) = some r := by rw [if_pos rfl] at H; exact H
                        clear H
                        have H := H1
                        clear H1
                        by_cases c61 : t202 = 2
                        · rw [if_pos c61] at H
                          have c61b0 : (t202 == 2) = true := beq_iff_eq.mpr c61
                          have c61b1 : (t202 != 2) = false := bne_eq_false_iff_eq.mpr c61
                          clear c61
                          by_cases c62 : 2 = 0
                          · exact absurd c62 (by decide)
                          · first | rw [if_neg c62] at H | simp only [↓reduceIte] at H | skip
                            have c62b0 : (2 == 0) = false := beq_eq_false_iff_ne.mpr c62
                            have c62b1 : (2 != 0) = true := bne_iff_ne.mpr c62
                            obtain rfl := Option.some.inj H
                            go_wp2_with (first | ((with_reducible refine gate_callee (f := 15) rfl ?_); refine goesL_ (some 87) rfl rfl Try.func15 (by kernel_rfl) rfl #[] rfl (by (try simp only [List.map_toArray, List.map_cons, List.map_nil]); first | done | rfl | (simp only [List.length_drop, List.length_take]; rfl)) ?_; (with_reducible refine (glossatorlaw3_chunkExample.calls kj32  true _ A59.out).mono ?_); rintro e w74 ⟨rfl, hb⟩; refine ⟨_, rfl, ?_⟩; have n0_ := Aside0.mk (Kd.R_below (by (with_reducible repeat (first | apply Kd.R_alloc | apply Kd.R_drewN | apply Kd.R_drew)); exact HO_14.out) hb); have n1_ := Aside0.mk (below_step (by repeat (first | (with_reducible first | exact HB.out | apply below_alloc | apply pw_below_drewN | apply below_drew1) | exact HB.out)) hb); clear HO_14; clear HB; have HO_14 := n0_; have HB := n1_; clear n0_ n1_; (try clear hb); (try clear hb2); (try clear hk); (try clear hi); obtain ⟨Ao75, co75, eo75⟩ := Kd.R_slice HO_14.out; subst eo75))
                            go_ret
                            exact ⟨by first | rfl | (simp [errW_none, errW_some] <;> rfl) | (simp [*, errW_none, errW_some] <;> rfl), by repeat (first | (with_reducible first | exact HB.out | apply below_alloc | apply pw_below_drewN | apply below_drew1) | exact HB.out)⟩
                        · rw [if_neg c61] at H
                          have c61b0 : (t202 == 2) = false := beq_eq_false_iff_ne.mpr c61
                          have c61b1 : (t202 != 2) = true := bne_iff_ne.mpr c61
                          obtain rfl := Option.some.inj H
                          go_wp2_with (first | ((with_reducible refine gate_callee (f := 15) rfl ?_); refine goesL_ (some 87) rfl rfl Try.func15 (by kernel_rfl) rfl #[] rfl (by (try simp only [List.map_toArray, List.map_cons, List.map_nil]); first | done | rfl | (simp only [List.length_drop, List.length_take]; rfl)) ?_; (with_reducible refine (glossatorlaw3_chunkExample.calls kj32  true _ A59.out).mono ?_); rintro e w76 ⟨rfl, hb⟩; refine ⟨_, rfl, ?_⟩; have n0_ := Aside0.mk (Kd.R_below (by (with_reducible repeat (first | apply Kd.R_alloc | apply Kd.R_drewN | apply Kd.R_drew)); exact HO_14.out) hb); have n1_ := Aside0.mk (below_step (by repeat (first | (with_reducible first | exact HB.out | apply below_alloc | apply pw_below_drewN | apply below_drew1) | exact HB.out)) hb); clear HO_14; clear HB; have HO_14 := n0_; have HB := n1_; clear n0_ n1_; (try clear hb); (try clear hb2); (try clear hk); (try clear hi)))
                          go_ret
                          exact ⟨by first | rfl | (simp [errW_none, errW_some] <;> rfl) | (simp [*, errW_none, errW_some] <;> rfl), by repeat (first | (with_reducible first | exact HB.out | apply below_alloc | apply pw_below_drewN | apply below_drew1) | exact HB.out)⟩
                      · replace c60 := Bool.eq_false_iff.mpr c60
                        subst c60
                        have H1 : (some false) = some r := by rw [if_neg (show ¬ (false = true) by decide)] at H; exact H
                        clear H
                        have H := H1
                        clear H1
                        obtain rfl := Option.some.inj H
                        go_wp2_with (first | ((with_reducible refine gate_callee (f := 15) rfl ?_); refine goesL_ (some 87) rfl rfl Try.func15 (by kernel_rfl) rfl #[] rfl (by (try simp only [List.map_toArray, List.map_cons, List.map_nil]); first | done | rfl | (simp only [List.length_drop, List.length_take]; rfl)) ?_; (with_reducible refine (glossatorlaw3_chunkExample.calls kj32  false _ A59.out).mono ?_); rintro e w77 ⟨rfl, hb⟩; refine ⟨_, rfl, ?_⟩; have n0_ := Aside0.mk (Kd.R_below (by (with_reducible repeat (first | apply Kd.R_alloc | apply Kd.R_drewN | apply Kd.R_drew)); exact HO_14.out) hb); have n1_ := Aside0.mk (below_step (by repeat (first | (with_reducible first | exact HB.out | apply below_alloc | apply pw_below_drewN | apply below_drew1) | exact HB.out)) hb); clear HO_14; clear HB; have HO_14 := n0_; have HB := n1_; clear n0_ n1_; (try clear hb); (try clear hb2); (try clear hk); (try clear hi)))
                        go_ret
                        exact ⟨by first | rfl | (simp [errW_none, errW_some] <;> rfl) | (simp [*, errW_none, errW_some] <;> rfl), by repeat (first | (with_reducible first | exact HB.out | apply below_alloc | apply pw_below_drewN | apply below_drew1) | exact HB.out)⟩
                    · rw [if_neg c58] at H
                      have c58b0 : decide (1000 < (l1.length : Int)) = false := decide_eq_false c58
                      have c58b1 : decide (1000 < l1.length) = false := decide_eq_false (by omega)
                      clear c58
                      replace H := Option.bind_eq_some_iff.mp H
                      obtain ⟨t215, A780, H⟩ := H
                      replace H : (if t215 = true then (if t202 = 0 then (if 0 = 0 then ((glossatorref3_Percentages.f kj32 l1 a3 a4).bind fun t216 => ((glossatorref3_Equal_int.f kj32 t201 t216).bind fun t219 => (if t219 = true then (some true) else (some false)))) else (some ((t201.length : Int) == 0))) else (some false)) else (some false)) = some r := H
                      have A78 := Aside0.mk A780
                      clear A780
                      by_cases c79 : t215 = true
                      · subst c79
                        have H1 : (if t202 = 0 then (if 0 = 0 then ((glossatorref3_Percentages.f kj32 l1 a3 a4).bind fun t216 => ((glossatorref3_Equal_int.f kj32 t201 t216).bind fun t219 => (if t219 = true then (some true) else (some false)))) else (some ((t201.length : Int) == 0))) else (some false)) = some r := by rw [if_pos rfl] at H; exact H
                        clear H
                        have H := H1
                        clear H1
                        by_cases c80 : t202 = 0
                        · rw [if_pos c80] at H
                          have c80b0 : (t202 == 0) = true := beq_iff_eq.mpr c80
                          have c80b1 : (t202 != 0) = false := bne_eq_false_iff_eq.mpr c80
                          clear c80
                          by_cases c81 : 0 = 0
                          · first | rw [if_pos c81] at H | simp only [↓reduceIte] at H | skip
                            have c81b0 : (0 == 0) = true := beq_iff_eq.mpr c81
                            have c81b1 : (0 != 0) = false := bne_eq_false_iff_eq.mpr c81
                            clear c81
                            replace H := Option.bind_eq_some_iff.mp H
                            obtain ⟨t216, A820, H⟩ := H
                            replace H : ((glossatorref3_Equal_int.f kj32 t201 t216).bind fun t219 => (if t219 = true then (some true) else (some false))) = some r := H
                            have A82 := Aside0.mk A820
                            clear A820
                            replace H := Option.bind_eq_some_iff.mp H
                            obtain ⟨t219, A830, H⟩ := H
                            replace H : (if t219 = true then (some true) else (some false)) = some r := H
                            have A83 := Aside0.mk A830
                            clear A830
                            by_cases c84 : t219 = true
                            · subst c84
                              have H1 : (some true) = some r := by rw [if_pos rfl] at H; exact H
                              clear H
                              have H := H1
                              clear H1
                              obtain rfl := Option.some.inj H
                              go_wp2_with (first | ((with_reducible refine gate_callee (f := 15) rfl ?_); refine goesL_ (some 87) rfl rfl Try.func15 (by kernel_rfl) rfl #[] rfl (by (try simp only [List.map_toArray, List.map_cons, List.map_nil]); first | done | rfl | (simp only [List.length_drop, List.length_take]; rfl)) ?_; (with_reducible refine (glossatorlaw3_chunkExample.calls kj32  true _ A78.out).mono ?_); rintro e w85 ⟨rfl, hb⟩; refine ⟨_, rfl, ?_⟩; have n0_ := Aside0.mk (Kd.R_below (by (with_reducible repeat (first | apply Kd.R_alloc | apply Kd.R_drewN | apply Kd.R_drew)); exact HO_14.out) hb); have n1_ := Aside0.mk (below_step (by repeat (first | (with_reducible first | exact HB.out | apply below_alloc | apply pw_below_drewN | apply below_drew1) | exact HB.out)) hb); clear HO_14; clear HB; have HO_14 := n0_; have HB := n1_; clear n0_ n1_; (try clear hb); (try clear hb2); (try clear hk); (try clear hi)) | (go_at_call 21; (with_reducible refine (glossatorref3_Percentages.calls kj32 _ _ l1 a3 a4 t216 _ ?side1 ?side2 A82.out).mono ?_); (case side1 => repeat (first | exact (Kd.C_below HR1.out HB.out) | (with_reducible refine Kd.C_alloc ?_ _) | (with_reducible refine Kd.C_drewN ?_ _) | (with_reducible refine Kd.C_drew ?_))); (case side2 => exact HC1.out); rintro e w86 ⟨v217, rfl, ho0, hb⟩; have n0_ := Aside0.mk (Kd.R_elder' (by (with_reducible repeat (first | apply Kd.R_alloc | apply Kd.R_drewN | apply Kd.R_drew)); exact HO_14.out) (Kd.Q_base ho0) hb); have n1_ := Aside0.mk (Kd.Q_lower (Kd.Q_new' ho0 (Kd.R_lt (by (with_reducible repeat (first | apply Kd.R_alloc | apply Kd.R_drewN | apply Kd.R_drew)); exact HO_14.out))) (below_size (by repeat (first | (with_reducible first | exact HB.out | apply below_alloc | apply pw_below_drewN | apply below_drew1) | exact HB.out)))); have n2_ := Aside0.mk (below_step (by repeat (first | (with_reducible first | exact HB.out | apply below_alloc | apply pw_below_drewN | apply below_drew1) | exact HB.out)) hb); clear HO_14; clear HB; have HO_14 := n0_; have HO218 := n1_; have HB := n2_; clear n0_ n1_ n2_; (try clear hb); (try clear hb2); (try clear hk); (try clear hi); (try clear ho0); obtain ⟨Ao87, co87, eo87⟩ := Kd.R_slice HO_14.out; subst eo87; obtain ⟨Ao88, co88, eo88, _⟩ := Kd.Q_slice HO218.out; subst eo88) | (go_at_call 20; (with_reducible refine (glossatorref3_Equal_int.calls kj32 _ _ t201 _ _ t216 true _ ?side1 ?side2 ?side3 ?side4 A83.out).mono ?_); (case side1 => repeat (first | exact (Kd.R_reads' HO_14.out).2.2 | (with_reducible refine Kd.C_alloc ?_ _) | (with_reducible refine Kd.C_drewN ?_ _) | (with_reducible refine Kd.C_drew ?_))); (case side2 => exact (Kd.R_reads' HO_14.out).2.1); (case side3 => repeat (first | exact (Kd.Q_reads' HO218.out).2.2 | (with_reducible refine Kd.C_alloc ?_ _) | (with_reducible refine Kd.C_drewN ?_ _) | (with_reducible refine Kd.C_drew ?_))); (case side4 => exact (Kd.Q_reads' HO218.out).2.1); rintro e w' ⟨rfl, ⟨nd, rfl⟩⟩))
                              go_ret
                              exact ⟨by first | rfl | (simp [errW_none, errW_some] <;> rfl) | (simp [*, errW_none, errW_some] <;> rfl), by repeat (first | (with_reducible first | exact HB.out | apply below_alloc | apply pw_below_drewN | apply below_drew1) | exact HB.out)⟩
                            · replace c84 := Bool.eq_false_iff.mpr c84
                              subst c84
                              have H1 : (some false) = some r := by rw [if_neg (show ¬ (false = true) by decide)] at H; exact H
                              clear H
                              have H := H1
                              clear H1
                              obtain rfl := Option.some.inj H
                              go_wp2_with (first | ((with_reducible refine gate_callee (f := 15) rfl ?_); refine goesL_ (some 87) rfl rfl Try.func15 (by kernel_rfl) rfl #[] rfl (by (try simp only [List.map_toArray, List.map_cons, List.map_nil]); first | done | rfl | (simp only [List.length_drop, List.length_take]; rfl)) ?_; (with_reducible refine (glossatorlaw3_chunkExample.calls kj32  true _ A78.out).mono ?_); rintro e w89 ⟨rfl, hb⟩; refine ⟨_, rfl, ?_⟩; have n0_ := Aside0.mk (Kd.R_below (by (with_reducible repeat (first | apply Kd.R_alloc | apply Kd.R_drewN | apply Kd.R_drew)); exact HO_14.out) hb); have n1_ := Aside0.mk (below_step (by repeat (first | (with_reducible first | exact HB.out | apply below_alloc | apply pw_below_drewN | apply below_drew1) | exact HB.out)) hb); clear HO_14; clear HB; have HO_14 := n0_; have HB := n1_; clear n0_ n1_; (try clear hb); (try clear hb2); (try clear hk); (try clear hi)) | (go_at_call 21; (with_reducible refine (glossatorref3_Percentages.calls kj32 _ _ l1 a3 a4 t216 _ ?side1 ?side2 A82.out).mono ?_); (case side1 => repeat (first | exact (Kd.C_below HR1.out HB.out) | (with_reducible refine Kd.C_alloc ?_ _) | (with_reducible refine Kd.C_drewN ?_ _) | (with_reducible refine Kd.C_drew ?_))); (case side2 => exact HC1.out); rintro e w90 ⟨v217, rfl, ho0, hb⟩; have n0_ := Aside0.mk (Kd.R_elder' (by (with_reducible repeat (first | apply Kd.R_alloc | apply Kd.R_drewN | apply Kd.R_drew)); exact HO_14.out) (Kd.Q_base ho0) hb); have n1_ := Aside0.mk (Kd.Q_lower (Kd.Q_new' ho0 (Kd.R_lt (by (with_reducible repeat (first | apply Kd.R_alloc | apply Kd.R_drewN | apply Kd.R_drew)); exact HO_14.out))) (below_size (by repeat (first | (with_reducible first | exact HB.out | apply below_alloc | apply pw_below_drewN | apply below_drew1) | exact HB.out)))); have n2_ := Aside0.mk (below_step (by repeat (first | (with_reducible first | exact HB.out | apply below_alloc | apply pw_below_drewN | apply below_drew1) | exact HB.out)) hb); clear HO_14; clear HB; have HO_14 := n0_; have HO218 := n1_; have HB := n2_; clear n0_ n1_ n2_; (try clear hb); (try clear hb2); (try clear hk); (try clear hi); (try clear ho0); obtain ⟨Ao91, co91, eo91⟩ := Kd.R_slice HO_14.out; subst eo91; obtain ⟨Ao92, co92, eo92, _⟩ := Kd.Q_slice HO218.out; subst eo92) | (go_at_call 20; (with_reducible refine (glossatorref3_Equal_int.calls kj32 _ _ t201 _ _ t216 false _ ?side1 ?side2 ?side3 ?side4 A83.out).mono ?_); (case side1 => repeat (first | exact (Kd.R_reads' HO_14.out).2.2 | (with_reducible refine Kd.C_alloc ?_ _) | (with_reducible refine Kd.C_drewN ?_ _) | (with_reducible refine Kd.C_drew ?_))); (case side2 => exact (Kd.R_reads' HO_14.out).2.1); (case side3 => repeat (first | exact (Kd.Q_reads' HO218.out).2.2 | (with_reducible refine Kd.C_alloc ?_ _) | (with_reducible refine Kd.C_drewN ?_ _) | (with_reducible refine Kd.C_drew ?_))); (case side4 => exact (Kd.Q_reads' HO218.out).2.1); rintro e w' ⟨rfl, ⟨nd, rfl⟩⟩))
                              go_ret
                              exact ⟨by first | rfl | (simp [errW_none, errW_some] <;> rfl) | (simp [*, errW_none, errW_some] <;> rfl), by repeat (first | (with_reducible first | exact HB.out | apply below_alloc | apply pw_below_drewN | apply below_drew1) | exact HB.out)⟩
                          · exact absurd (by decide) c81
                        · rw [if_neg c80] at H
                          have c80b0 : (t202 == 0) = false := beq_eq_false_iff_ne.mpr c80
                          have c80b1 : (t202 != 0) = true := bne_iff_ne.mpr c80
                          obtain rfl := Option.some.inj H
                          go_wp2_with (first | ((with_reducible refine gate_callee (f := 15) rfl ?_); refine goesL_ (some 87) rfl rfl Try.func15 (by kernel_rfl) rfl #[] rfl (by (try simp only [List.map_toArray, List.map_cons, List.map_nil]); first | done | rfl | (simp only [List.length_drop, List.length_take]; rfl)) ?_; (with_reducible refine (glossatorlaw3_chunkExample.calls kj32  true _ A78.out).mono ?_); rintro e w95 ⟨rfl, hb⟩; refine ⟨_, rfl, ?_⟩; have n0_ := Aside0.mk (Kd.R_below (by (with_reducible repeat (first | apply Kd.R_alloc | apply Kd.R_drewN | apply Kd.R_drew)); exact HO_14.out) hb); have n1_ := Aside0.mk (below_step (by repeat (first | (with_reducible first | exact HB.out | apply below_alloc | apply pw_below_drewN | apply below_drew1) | exact HB.out)) hb); clear HO_14; clear HB; have HO_14 := n0_; have HB := n1_; clear n0_ n1_; (try clear hb); (try clear hb2); (try clear hk); (try clear hi)))
                          go_ret
                          exact ⟨by first | rfl | (simp [errW_none, errW_some] <;> rfl) | (simp [*, errW_none, errW_some] <;> rfl), by repeat (first | (with_reducible first | exact HB.out | apply below_alloc | apply pw_below_drewN | apply below_drew1) | exact HB.out)⟩
                      · replace c79 := Bool.eq_false_iff.mpr c79
                        subst c79
                        have H1 : (some false) = some r := by rw [if_neg (show ¬ (false = true) by decide)] at H; exact H
                        clear H
                        have H := H1
                        clear H1
                        obtain rfl := Option.some.inj H
                        go_wp2_with (first | ((with_reducible refine gate_callee (f := 15) rfl ?_); refine goesL_ (some 87) rfl rfl Try.func15 (by kernel_rfl) rfl #[] rfl (by (try simp only [List.map_toArray, List.map_cons, List.map_nil]); first | done | rfl | (simp only [List.length_drop, List.length_take]; rfl)) ?_; (with_reducible refine (glossatorlaw3_chunkExample.calls kj32  false _ A78.out).mono ?_); rintro e w96 ⟨rfl, hb⟩; refine ⟨_, rfl, ?_⟩; have n0_ := Aside0.mk (Kd.R_below (by (with_reducible repeat (first | apply Kd.R_alloc | apply Kd.R_drewN | apply Kd.R_drew)); exact HO_14.out) hb); have n1_ := Aside0.mk (below_step (by repeat (first | (with_reducible first | exact HB.out | apply below_alloc | apply pw_below_drewN | apply below_drew1) | exact HB.out)) hb); clear HO_14; clear HB; have HO_14 := n0_; have HB := n1_; clear n0_ n1_; (try clear hb); (try clear hb2); (try clear hk); (try clear hi)))
                        go_ret
                        exact ⟨by first | rfl | (simp [errW_none, errW_some] <;> rfl) | (simp [*, errW_none, errW_some] <;> rfl), by repeat (first | (with_reducible first | exact HB.out | apply below_alloc | apply pw_below_drewN | apply below_drew1) | exact HB.out)⟩
  · replace c7 := Bool.eq_false_iff.mpr c7
    subst c7
    have H1 : (some false) = some r := by rw [if_neg (show ¬ (false = true) by decide)] at H; exact H
    clear H
    have H := H1
    clear H1
    obtain rfl := Option.some.inj H
    go_enter Try.func3, Try.ntmps3
    go_wp2_with (first | ((with_reducible refine gate_callee (f := 15) rfl ?_); refine goesL_ (some 16) rfl rfl Try.func15 (by kernel_rfl) rfl #[] rfl (by (try simp only [List.map_toArray, List.map_cons, List.map_nil]); first | done | rfl | (simp only [List.length_drop, List.length_take]; rfl)) ?_; (with_reducible refine (glossatorlaw3_chunkExample.calls k  false _ A6.out).mono ?_); rintro e w97 ⟨rfl, hb⟩; refine ⟨_, rfl, ?_⟩; have n0_ := Aside0.mk (below_step (by repeat (first | (with_reducible first | exact HB.out | apply below_alloc | apply pw_below_drewN | apply below_drew1) | exact HB.out)) hb); clear HB; have HB := n0_; clear n0_; (try clear hb); (try clear hb2); (try clear hk); (try clear hi)))
    go_ret
    exact ⟨by first | rfl | (simp [errW_none, errW_some] <;> rfl) | (simp [*, errW_none, errW_some] <;> rfl), by repeat (first | (with_reducible first | exact HB.out | apply below_alloc | apply pw_below_drewN | apply below_drew1) | exact HB.out)⟩

/-- THE ONE PURE STATEMENT of glossatorlaw3_ProgressSplit: yours. -/
def glossatorlaw3_ProgressSplit.Pure : Prop := ∀ (a0 : Int) (l1 : List Int) (a2 : Int) (a3 : Int) (a4 : Int), (Lit.int .i64 a0).wf = true → l1.length ≤ maxLen → l1.length * 8 ≤ 140737488351232 → (∀ x ∈ l1, (Lit.int .i64 x).wf = true) → (Lit.int .i64 a2).wf = true → (Lit.int .i64 a3).wf = true → (Lit.int .i64 a4).wf = true → ∃ k, glossatorlaw3_ProgressSplit.f k a0 l1 a2 a3 a4 = some true
theorem glossatorlaw3_ProgressSplit.walk (P : glossatorlaw3_ProgressSplit.Pure) (a0 : Int) (a1 : Option Addr) (len1 cap1 : Nat) (z1 : List Int) (a2 : Int) (a3 : Int) (a4 : Int) (w : World) (w0 : (Lit.int .i64 a0).wf = true) (w1 : (a1 = none ∧ len1 = 0 ∧ cap1 = 0 ∧ z1 = []) ∨ ∃ x, a1 = some x ∧ len1 ≤ cap1 ∧ cap1 ≤ maxLen ∧ z1.length = cap1 ∧ (∀ i, i < z1.length → w.cell? (x.add i) = some (.int .i64 (z1.getD i 0))) ∧ ∀ n ∈ z1, (Lit.int .i64 n).wf = true) (y1 : len1 * 8 ≤ 140737488351232) (w2 : (Lit.int .i64 a2).wf = true) (w3 : (Lit.int .i64 a3).wf = true) (w4 : (Lit.int .i64 a4).wf = true) :
    Calls Try.prog 3 #[.int .i64 a0, .slice a1 len1 cap1, .int .i64 a2, .int .i64 a3, .int .i64 a4] w fun e w' => e = .returned (.bool true) ∧ Below w.heap.size w w' := by
  obtain ⟨l1, rfl, hr1, hm1, hw1, hc1⟩ := ReadsInt.ofRowC w1
  obtain ⟨k, h⟩ := P a0 l1 a2 a3 a4 w0 hm1 y1 hw1 w2 w3 w4
  refine (glossatorlaw3_ProgressSplit.calls k a0 _ _ l1 a2 a3 a4 true w (Kd.C_of_reads (d := (0 : Int)) (h1 := fun _ => rfl) hr1) hc1 h).mono ?_
  rintro e w' ⟨rfl, hd⟩
  exact ⟨rfl, hd⟩

end Go.Proofs.Ytbfedkmiekbcmaa.QProgressSplit
