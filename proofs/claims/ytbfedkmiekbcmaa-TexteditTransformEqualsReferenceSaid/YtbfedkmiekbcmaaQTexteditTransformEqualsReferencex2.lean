-- Written by gen.py (this repo's wip/), which runs the kit's print.py with more arms. Lean checks it.
import Derived.Test.YtbfedkmiekbcmaaQTexteditTransformEqualsReferencex0
namespace Go.Proofs.Ytbfedkmiekbcmaa.QTexteditTransformEqualsReference
open Go.RowKit Go.Proofs.YtbfedkmiekbcmaaW.PrintWords Go.Proofs.YtbfedkmiekbcmaaW.PrintLast Go.Proofs.YtbfedkmiekbcmaaW.PrintMore
attribute [local go_sem] max2_int min2_int max_two min_two max_three min_three max_four min_four   -- for this text's walks alone
set_option linter.unusedVariables false
set_option linter.unusedSimpArgs false

private theorem isEmpty_bne {α : Type} [BEq α] (l : List α) : (l != []) = !l.isEmpty := by cases l <;> rfl

/-! ### textedit_Validate: function 68 -/
mutual
def textedit_Validate.j0 : Nat → ByteArray → List (S137) → Bool → Option (Int)
  | 0, _, _, _ => none
  | k + 1, x0, x1, x16 => if x16 = true then (some 2) else (textedit_Validate.l0 k x0 (-1) (x0.size : Int) x1 (x1.length : Int) 0)
def textedit_Validate.l0 : Nat → ByteArray → Int → Int → List (S137) → Int → Int → Option (Int)
  | 0, _, _, _, _, _, _ => none
  | k + 1, x0, x5, x6, x19, x20, x21 => if x21 < x20 then (if 0 ≤ x21 then (if x21 < (x19.length : Int) then (if ((rd_T137 x19 x21).f0) ≤ x5 then (some 3) else (if ((rd_T137 x19 x21).f1) < ((rd_T137 x19 x21).f0) then (some 3) else (if ((rd_T137 x19 x21).f1) > (x0.size : Int) then (some 3) else (textedit_Validate.l0 k x0 ((rd_T137 x19 x21).f1) (wrap64 (x6 + (wrap64 ((((rd_T137 x19 x21).f2).size : Int) - (wrap64 (((rd_T137 x19 x21).f1) - ((rd_T137 x19 x21).f0))))))) x19 x20 (wrap64 (x21 + 1)))))) else (none)) else (none)) else (if x6 > 2000 then (some 2) else (some 0))
end
def textedit_Validate.f (k : Nat) (a0 : ByteArray) (l1 : List (S137)) : Option (Int) := if (a0.size : Int) > 2000 then (textedit_Validate.j0 k a0 l1 true) else (textedit_Validate.j0 k a0 l1 (decide ((l1.length : Int) > 50)))
theorem textedit_Validate.mono_l : ∀ k, (∀ y0 y1 y2, LeO (textedit_Validate.j0 k y0 y1 y2) (textedit_Validate.j0 (k + 1) y0 y1 y2)) ∧ (∀ y0 y1 y2 y3 y4 y5, LeO (textedit_Validate.l0 k y0 y1 y2 y3 y4 y5) (textedit_Validate.l0 (k + 1) y0 y1 y2 y3 y4 y5))
  | 0 => ⟨fun _ _ _ r h => by simp [textedit_Validate.j0] at h, fun _ _ _ _ _ _ r h => by simp [textedit_Validate.l0] at h⟩
  | k + 1 => by
    obtain ⟨ih0, ih1⟩ := textedit_Validate.mono_l k
    refine ⟨?_, ?_⟩
    · intro y0 y1 y2
      unfold textedit_Validate.j0
      repeat' first
      | (with_reducible exact ih0 _ _ _)
      | (with_reducible exact ih1 _ _ _ _ _ _)
      | (with_reducible exact LeO.refl _)
      | (with_reducible exact LeO.none _)
      | (with_reducible refine LeO.ite ?_ ?_)
      | (with_reducible refine LeO.bind ?_ (fun _ => ?_))
      | exact ih0 _ _ _
      | exact ih1 _ _ _ _ _ _
      | exact LeO.none _
      | refine LeO.ite ?_ ?_
      | refine LeO.bind ?_ (fun _ => ?_)
    · intro y0 y1 y2 y3 y4 y5
      unfold textedit_Validate.l0
      repeat' first
      | (with_reducible exact ih0 _ _ _)
      | (with_reducible exact ih1 _ _ _ _ _ _)
      | (with_reducible exact LeO.refl _)
      | (with_reducible exact LeO.none _)
      | (with_reducible refine LeO.ite ?_ ?_)
      | (with_reducible refine LeO.bind ?_ (fun _ => ?_))
      | exact ih0 _ _ _
      | exact ih1 _ _ _ _ _ _
      | exact LeO.none _
      | refine LeO.ite ?_ ?_
      | refine LeO.bind ?_ (fun _ => ?_)
theorem textedit_Validate.mono : ∀ a0 a1 k, LeO (textedit_Validate.f k a0 a1) (textedit_Validate.f (k + 1) a0 a1) := by
  intro a0 a1 k
  obtain ⟨ih0, ih1⟩ := textedit_Validate.mono_l k
  unfold textedit_Validate.f
  repeat' first
      | (with_reducible exact ih0 _ _ _)
      | (with_reducible exact ih1 _ _ _ _ _ _)
      | (with_reducible exact LeO.refl _)
      | (with_reducible exact LeO.none _)
      | (with_reducible refine LeO.ite ?_ ?_)
      | (with_reducible refine LeO.bind ?_ (fun _ => ?_))
      | exact ih0 _ _ _
      | exact ih1 _ _ _ _ _ _
      | exact LeO.none _
      | refine LeO.ite ?_ ?_
      | refine LeO.bind ?_ (fun _ => ?_)
set_option maxHeartbeats 8000000 in
set_option maxRecDepth 100000 in
theorem textedit_Validate.calls (k : Nat) (a0 : ByteArray) (A1 : Option Addr) (c1 : Nat) (l1 : List (S137)) (r : Int) (w : World) (hr1 : Kd.C k137 w A1 l1.length l1) (hc1 : l1.length ≤ c1) (h : textedit_Validate.f k a0 l1 = some r) :
    Calls Try.prog 68 #[.string a0, .slice A1 l1.length c1] w fun e w' => e = .returned (.int .i64 r) ∧ Below w.heap.size w w' := by
  have hu137 := Try.underlying137
  have HR1 := Aside0.mk hr1
  have HC1 := Aside0.mk hc1
  clear hr1 hc1
  have HB := Aside0.mk (Below.refl w.heap.size w)
  have H : (if (a0.size : Int) > 2000 then (textedit_Validate.j0 k a0 l1 true) else (textedit_Validate.j0 k a0 l1 (decide ((l1.length : Int) > 50)))) = some r := h
  clear h
  have HC3 := Aside0.mk H
  clear H
  go_enter Try.func68, Try.ntmps68
  go_upto_region 1 with (fail)
  go_cut [16] (fun v16 wc => ∃ (kq : Nat) (x16_2 : Bool), v16 = .bool x16_2 ∧ Aside0 (textedit_Validate.j0 kq a0 l1 x16_2 = some r) ∧ Aside0 (kq ≤ k) ∧ Aside0 (Below w.heap.size w wc))
  case first =>
    have H := HC3.out
    clear HC3
    by_cases c4 : (a0.size : Int) > 2000
    · rw [if_pos c4] at H
      have c4b0 : decide (2000 < (a0.size : Int)) = true := decide_eq_true c4
      have c4b1 : decide (2000 < a0.size) = true := decide_eq_true (by omega)
      clear c4
      (first | rw [c4b0] | (simp only [i64_w, i32_w]; rw [c4b0]) | skip)
      have H' := Aside0.mk H
      clear H
      go_wp2
      go_meet
      case rel => exact ⟨_, (true), (by first | rfl | (simp; done) | (simp [*]; done) | (simp [isEmpty_bne]; done)), H', ⟨by first | omega | exact Nat.le_refl _⟩, ⟨by repeat (first | (with_reducible first | exact HB.out | apply below_alloc | apply pw_below_drewN | apply below_drew1) | exact HB.out)⟩⟩
    · rw [if_neg c4] at H
      have c4b0 : decide (2000 < (a0.size : Int)) = false := decide_eq_false c4
      have c4b1 : decide (2000 < a0.size) = false := decide_eq_false (by omega)
      clear c4
      (first | rw [c4b0] | (simp only [i64_w, i32_w]; rw [c4b0]) | skip)
      have H' := Aside0.mk H
      clear H
      go_wp2
      go_meet
      case rel => exact ⟨_, (decide ((l1.length : Int) > 50)), (by first | rfl | (simp; done) | (simp [*]; done) | (simp [isEmpty_bne]; done)), H', ⟨by first | omega | exact Nat.le_refl _⟩, ⟨by repeat (first | (with_reducible first | exact HB.out | apply below_alloc | apply pw_below_drewN | apply below_drew1) | exact HB.out)⟩⟩
  case rest =>
    clear HC3
    try clear c1
    try clear p2
    try clear c4
    try clear c4b0
    try clear c4b1
    obtain ⟨kq, x16_2, rfl, HA, HJ2, HB⟩ := hcut
    cases kq with
    | zero => exact absurd HA.out (by simp [textedit_Validate.j0])
    | succ kj2 =>
      have H := HA.out
      clear HA
      simp only [textedit_Validate.j0] at H
      by_cases c5 : x16_2 = true
      · subst c5
        have H1 : (some 2) = some r := by rw [if_pos rfl] at H; exact H
        clear H
        have H := H1
        clear H1
        obtain rfl := Option.some.inj H
        go_wp2
        go_ret
        exact ⟨by first | rfl | (simp [errW_none, errW_some] <;> rfl) | (simp [*, errW_none, errW_some] <;> rfl), by repeat (first | (with_reducible first | exact HB.out | apply below_alloc | apply pw_below_drewN | apply below_drew1) | exact HB.out)⟩
      · replace c5 := Bool.eq_false_iff.mpr c5
        subst c5
        have H1 : (textedit_Validate.l0 kj2 a0 (-1) (a0.size : Int) l1 (l1.length : Int) 0) = some r := by rw [if_neg (show ¬ (false = true) by decide)] at H; exact H
        clear H
        have H := H1
        clear H1
        have H' := Aside0.mk H
        clear H
        go_wp2
        go_loopg [5, 6, 21] kj2 (fun kq v5 v6 v21 w' => ∃ (x5_2 : Int) (x6_2 : Int) (x21_2 : Int), v5 = .int .i64 x5_2 ∧ v6 = .int .i64 x6_2 ∧ v21 = .int .i64 x21_2 ∧ Aside0 (textedit_Validate.l0 kq a0 x5_2 x6_2 l1 (l1.length : Int) x21_2 = some r) ∧ Aside0 (kq ≤ kj2) ∧ Aside0 (Below w.heap.size w w'))
        case atStart => exact ⟨((-1)), ((a0.size : Int)), (0), (by first | rfl | (simp; done) | (simp [*]; done) | (simp [isEmpty_bne]; done)), (by first | rfl | (simp; done) | (simp [*]; done) | (simp [isEmpty_bne]; done)), (by first | rfl | (simp; done) | (simp [*]; done) | (simp [isEmpty_bne]; done)), H', ⟨Nat.le_refl _⟩, ⟨by repeat (first | (with_reducible first | exact HB.out | apply below_alloc | apply pw_below_drewN | apply below_drew1) | exact HB.out)⟩⟩
        case round =>
          clear H'
          try clear c1
          try clear p2
          try clear c4
          try clear c4b0
          try clear c4b1
          try clear c5
          try clear p2
          obtain ⟨x5_2, x6_2, x21_2, rfl, rfl, rfl, HA, HK2, HB⟩ := hrel
          cases gk with
          | zero => exact absurd HA.out (by simp [textedit_Validate.l0])
          | succ k2 =>
            have H := HA.out
            clear HA
            simp only [textedit_Validate.l0] at H
            by_cases c6 : x21_2 < (l1.length : Int)
            · rw [if_pos c6] at H
              have c6b0 : decide (x21_2 < (l1.length : Int)) = true := decide_eq_true c6
              clear c6
              by_cases c7 : 0 ≤ x21_2
              · rw [if_pos c7] at H
                have c7b0 : decide (0 ≤ x21_2) = true := decide_eq_true c7
                clear c7
                by_cases c8 : x21_2 < (l1.length : Int)
                · rw [if_pos c8] at H
                  have c8b0 : decide (x21_2 < (l1.length : Int)) = true := decide_eq_true c8
                  clear c8
                  by_cases c9 : ((rd_T137 l1 x21_2).f0) ≤ x5_2
                  · rw [if_pos c9] at H
                    have c9b0 : decide (((rd_T137 l1 x21_2).f0) ≤ x5_2) = true := decide_eq_true c9
                    clear c9
                    obtain rfl := Option.some.inj H
                    have p101 : 0 ≤ (x21_2 : Int) := of_decide_eq_true (by first | (with_reducible assumption) | assumption)
                    have q101 : x21_2 < (l1.length : Int) := of_decide_eq_true (by first | (with_reducible assumption) | assumption)
                    obtain ⟨ad101, e101, hx101_0, hx101_1, hx101_2⟩ := at_T137 HR1.out x21_2 p101 q101
                    cases e101
                    replace hx101_0 := (HB.out.cell (World.block_lt_of_cell? w _ hx101_0)).trans hx101_0
                    replace hx101_1 := (HB.out.cell (World.block_lt_of_cell? w _ hx101_1)).trans hx101_1
                    replace hx101_2 := (HB.out.cell (World.block_lt_of_cell? w _ hx101_2)).trans hx101_2
                    replace p101 := eq_true p101
                    replace q101 := eq_true q101
                    go_wp2_with (first | ((with_reducible refine gate_dst (N := 8) rfl ?_); (try (refine gate_guard (by rfl) ?_; dsimp only)); refine box_event ?hg (N := 8) ?hd (cs := #[.int .i64 0, .int .i64 0, .string (⟨#[]⟩ : ByteArray)]) (t := 137) ?hr ?_; (case hd => rfl); (case hg => rfl); (case hr => first | (go_simp; done) | (go_simp; rfl)); intro gb102 hg w10 hbox hb; have n0_ := Aside0.mk (below_step (by repeat (first | (with_reducible first | exact HB.out | apply below_alloc | apply pw_below_drewN | apply below_drew1) | exact HB.out)) hb); have n1_ := Aside0.mk (hbox); have n2_ := Aside0.mk ((by rw [hg]; exact (below_size (by repeat (first | (with_reducible first | exact HB.out | apply below_alloc | apply pw_below_drewN | apply below_drew1) | exact HB.out))) : w.heap.size ≤ gb102)); have n3_ := Aside0.mk ((by rw [hg]; exact (below_size (by repeat (first | (with_reducible first | exact HB.out | apply below_alloc | apply pw_below_drewN | apply below_drew1) | exact HB.out))) : w.heap.size ≤ gb102)); clear HB; have HB := n0_; have BK102 := n1_; have GW102 := n2_; have GE102 := n3_; clear n0_ n1_ n2_ n3_; clear hb hbox hg; have hcz11_0 : w10.cell? ⟨gb102, 0, none⟩ = some (.int .i64 0) := (blk_cell BK102.out 0).trans rfl; have hcz11_1 : w10.cell? ⟨gb102, 1, none⟩ = some (.int .i64 0) := (blk_cell BK102.out 1).trans rfl; have hcz11_2 : w10.cell? ⟨gb102, 2, none⟩ = some (.string (⟨#[]⟩ : ByteArray)) := (blk_cell BK102.out 2).trans rfl; have hfz11_0 := blk_frozen BK102.out 0; have hfz11_1 := blk_frozen BK102.out 1; have hfz11_2 := blk_frozen BK102.out 2))
                    go_ret
                    exact ⟨by first | rfl | (simp [errW_none, errW_some] <;> rfl) | (simp [*, errW_none, errW_some] <;> rfl), by repeat (first | (with_reducible first | exact HB.out | apply below_alloc | apply pw_below_drewN | apply below_drew1 | refine below_set ?_ GE102.out) | exact HB.out)⟩
                  · rw [if_neg c9] at H
                    have c9b0 : decide (((rd_T137 l1 x21_2).f0) ≤ x5_2) = false := decide_eq_false c9
                    clear c9
                    by_cases c12 : ((rd_T137 l1 x21_2).f1) < ((rd_T137 l1 x21_2).f0)
                    · rw [if_pos c12] at H
                      have c12b0 : decide (((rd_T137 l1 x21_2).f1) < ((rd_T137 l1 x21_2).f0)) = true := decide_eq_true c12
                      clear c12
                      obtain rfl := Option.some.inj H
                      have p101 : 0 ≤ (x21_2 : Int) := of_decide_eq_true (by first | (with_reducible assumption) | assumption)
                      have q101 : x21_2 < (l1.length : Int) := of_decide_eq_true (by first | (with_reducible assumption) | assumption)
                      obtain ⟨ad101, e101, hx101_0, hx101_1, hx101_2⟩ := at_T137 HR1.out x21_2 p101 q101
                      cases e101
                      replace hx101_0 := (HB.out.cell (World.block_lt_of_cell? w _ hx101_0)).trans hx101_0
                      replace hx101_1 := (HB.out.cell (World.block_lt_of_cell? w _ hx101_1)).trans hx101_1
                      replace hx101_2 := (HB.out.cell (World.block_lt_of_cell? w _ hx101_2)).trans hx101_2
                      replace p101 := eq_true p101
                      replace q101 := eq_true q101
                      go_wp2_with (first | ((with_reducible refine gate_dst (N := 8) rfl ?_); (try (refine gate_guard (by rfl) ?_; dsimp only)); refine box_event ?hg (N := 8) ?hd (cs := #[.int .i64 0, .int .i64 0, .string (⟨#[]⟩ : ByteArray)]) (t := 137) ?hr ?_; (case hd => rfl); (case hg => rfl); (case hr => first | (go_simp; done) | (go_simp; rfl)); intro gb102 hg w13 hbox hb; have n0_ := Aside0.mk (below_step (by repeat (first | (with_reducible first | exact HB.out | apply below_alloc | apply pw_below_drewN | apply below_drew1) | exact HB.out)) hb); have n1_ := Aside0.mk (hbox); have n2_ := Aside0.mk ((by rw [hg]; exact (below_size (by repeat (first | (with_reducible first | exact HB.out | apply below_alloc | apply pw_below_drewN | apply below_drew1) | exact HB.out))) : w.heap.size ≤ gb102)); have n3_ := Aside0.mk ((by rw [hg]; exact (below_size (by repeat (first | (with_reducible first | exact HB.out | apply below_alloc | apply pw_below_drewN | apply below_drew1) | exact HB.out))) : w.heap.size ≤ gb102)); clear HB; have HB := n0_; have BK102 := n1_; have GW102 := n2_; have GE102 := n3_; clear n0_ n1_ n2_ n3_; clear hb hbox hg; have hcz14_0 : w13.cell? ⟨gb102, 0, none⟩ = some (.int .i64 0) := (blk_cell BK102.out 0).trans rfl; have hcz14_1 : w13.cell? ⟨gb102, 1, none⟩ = some (.int .i64 0) := (blk_cell BK102.out 1).trans rfl; have hcz14_2 : w13.cell? ⟨gb102, 2, none⟩ = some (.string (⟨#[]⟩ : ByteArray)) := (blk_cell BK102.out 2).trans rfl; have hfz14_0 := blk_frozen BK102.out 0; have hfz14_1 := blk_frozen BK102.out 1; have hfz14_2 := blk_frozen BK102.out 2))
                      go_ret
                      exact ⟨by first | rfl | (simp [errW_none, errW_some] <;> rfl) | (simp [*, errW_none, errW_some] <;> rfl), by repeat (first | (with_reducible first | exact HB.out | apply below_alloc | apply pw_below_drewN | apply below_drew1 | refine below_set ?_ GE102.out) | exact HB.out)⟩
                    · rw [if_neg c12] at H
                      have c12b0 : decide (((rd_T137 l1 x21_2).f1) < ((rd_T137 l1 x21_2).f0)) = false := decide_eq_false c12
                      clear c12
                      by_cases c15 : ((rd_T137 l1 x21_2).f1) > (a0.size : Int)
                      · rw [if_pos c15] at H
                        have c15b0 : decide ((a0.size : Int) < ((rd_T137 l1 x21_2).f1)) = true := decide_eq_true c15
                        clear c15
                        obtain rfl := Option.some.inj H
                        have p101 : 0 ≤ (x21_2 : Int) := of_decide_eq_true (by first | (with_reducible assumption) | assumption)
                        have q101 : x21_2 < (l1.length : Int) := of_decide_eq_true (by first | (with_reducible assumption) | assumption)
                        obtain ⟨ad101, e101, hx101_0, hx101_1, hx101_2⟩ := at_T137 HR1.out x21_2 p101 q101
                        cases e101
                        replace hx101_0 := (HB.out.cell (World.block_lt_of_cell? w _ hx101_0)).trans hx101_0
                        replace hx101_1 := (HB.out.cell (World.block_lt_of_cell? w _ hx101_1)).trans hx101_1
                        replace hx101_2 := (HB.out.cell (World.block_lt_of_cell? w _ hx101_2)).trans hx101_2
                        replace p101 := eq_true p101
                        replace q101 := eq_true q101
                        go_wp2_with (first | ((with_reducible refine gate_dst (N := 8) rfl ?_); (try (refine gate_guard (by rfl) ?_; dsimp only)); refine box_event ?hg (N := 8) ?hd (cs := #[.int .i64 0, .int .i64 0, .string (⟨#[]⟩ : ByteArray)]) (t := 137) ?hr ?_; (case hd => rfl); (case hg => rfl); (case hr => first | (go_simp; done) | (go_simp; rfl)); intro gb102 hg w16 hbox hb; have n0_ := Aside0.mk (below_step (by repeat (first | (with_reducible first | exact HB.out | apply below_alloc | apply pw_below_drewN | apply below_drew1) | exact HB.out)) hb); have n1_ := Aside0.mk (hbox); have n2_ := Aside0.mk ((by rw [hg]; exact (below_size (by repeat (first | (with_reducible first | exact HB.out | apply below_alloc | apply pw_below_drewN | apply below_drew1) | exact HB.out))) : w.heap.size ≤ gb102)); have n3_ := Aside0.mk ((by rw [hg]; exact (below_size (by repeat (first | (with_reducible first | exact HB.out | apply below_alloc | apply pw_below_drewN | apply below_drew1) | exact HB.out))) : w.heap.size ≤ gb102)); clear HB; have HB := n0_; have BK102 := n1_; have GW102 := n2_; have GE102 := n3_; clear n0_ n1_ n2_ n3_; clear hb hbox hg; have hcz17_0 : w16.cell? ⟨gb102, 0, none⟩ = some (.int .i64 0) := (blk_cell BK102.out 0).trans rfl; have hcz17_1 : w16.cell? ⟨gb102, 1, none⟩ = some (.int .i64 0) := (blk_cell BK102.out 1).trans rfl; have hcz17_2 : w16.cell? ⟨gb102, 2, none⟩ = some (.string (⟨#[]⟩ : ByteArray)) := (blk_cell BK102.out 2).trans rfl; have hfz17_0 := blk_frozen BK102.out 0; have hfz17_1 := blk_frozen BK102.out 1; have hfz17_2 := blk_frozen BK102.out 2))
                        go_ret
                        exact ⟨by first | rfl | (simp [errW_none, errW_some] <;> rfl) | (simp [*, errW_none, errW_some] <;> rfl), by repeat (first | (with_reducible first | exact HB.out | apply below_alloc | apply pw_below_drewN | apply below_drew1 | refine below_set ?_ GE102.out) | exact HB.out)⟩
                      · rw [if_neg c15] at H
                        have c15b0 : decide ((a0.size : Int) < ((rd_T137 l1 x21_2).f1)) = false := decide_eq_false c15
                        clear c15
                        have H' := Aside0.mk H
                        clear H
                        have p101 : 0 ≤ (x21_2 : Int) := of_decide_eq_true (by first | (with_reducible assumption) | assumption)
                        have q101 : x21_2 < (l1.length : Int) := of_decide_eq_true (by first | (with_reducible assumption) | assumption)
                        obtain ⟨ad101, e101, hx101_0, hx101_1, hx101_2⟩ := at_T137 HR1.out x21_2 p101 q101
                        cases e101
                        replace hx101_0 := (HB.out.cell (World.block_lt_of_cell? w _ hx101_0)).trans hx101_0
                        replace hx101_1 := (HB.out.cell (World.block_lt_of_cell? w _ hx101_1)).trans hx101_1
                        replace hx101_2 := (HB.out.cell (World.block_lt_of_cell? w _ hx101_2)).trans hx101_2
                        replace p101 := eq_true p101
                        replace q101 := eq_true q101
                        go_wp2_with (first | ((with_reducible refine gate_dst (N := 8) rfl ?_); (try (refine gate_guard (by rfl) ?_; dsimp only)); refine box_event ?hg (N := 8) ?hd (cs := #[.int .i64 0, .int .i64 0, .string (⟨#[]⟩ : ByteArray)]) (t := 137) ?hr ?_; (case hd => rfl); (case hg => rfl); (case hr => first | (go_simp; done) | (go_simp; rfl)); intro gb102 hg w18 hbox hb; have n0_ := Aside0.mk (below_step (by repeat (first | (with_reducible first | exact HB.out | apply below_alloc | apply pw_below_drewN | apply below_drew1) | exact HB.out)) hb); have n1_ := Aside0.mk (hbox); have n2_ := Aside0.mk ((by rw [hg]; exact (below_size (by repeat (first | (with_reducible first | exact HB.out | apply below_alloc | apply pw_below_drewN | apply below_drew1) | exact HB.out))) : w.heap.size ≤ gb102)); have n3_ := Aside0.mk ((by rw [hg]; exact (below_size (by repeat (first | (with_reducible first | exact HB.out | apply below_alloc | apply pw_below_drewN | apply below_drew1) | exact HB.out))) : w.heap.size ≤ gb102)); clear HB; have HB := n0_; have BK102 := n1_; have GW102 := n2_; have GE102 := n3_; clear n0_ n1_ n2_ n3_; clear hb hbox hg; have hcz19_0 : w18.cell? ⟨gb102, 0, none⟩ = some (.int .i64 0) := (blk_cell BK102.out 0).trans rfl; have hcz19_1 : w18.cell? ⟨gb102, 1, none⟩ = some (.int .i64 0) := (blk_cell BK102.out 1).trans rfl; have hcz19_2 : w18.cell? ⟨gb102, 2, none⟩ = some (.string (⟨#[]⟩ : ByteArray)) := (blk_cell BK102.out 2).trans rfl; have hfz19_0 := blk_frozen BK102.out 0; have hfz19_1 := blk_frozen BK102.out 1; have hfz19_2 := blk_frozen BK102.out 2))
                        go_roundg k2
                        case measure => have := HJ2.out; have := HK2.out; omega
                        case rel => exact ⟨((rd_T137 l1 x21_2).f1), (wrap64 (x6_2 + (wrap64 ((((rd_T137 l1 x21_2).f2).size : Int) - (wrap64 (((rd_T137 l1 x21_2).f1) - ((rd_T137 l1 x21_2).f0))))))), (wrap64 (x21_2 + 1)), (by first | rfl | (simp; done) | (simp [*]; done) | (simp [isEmpty_bne]; done)), (by first | rfl | (simp; done) | (simp [*]; done) | (simp [isEmpty_bne]; done)), (by first | rfl | (simp; done) | (simp [*]; done) | (simp [isEmpty_bne]; done)), H', ⟨by have := HJ2.out; have := HK2.out; omega⟩, ⟨by repeat (first | (with_reducible first | exact HB.out | apply below_alloc | apply pw_below_drewN | apply below_drew1 | refine below_set ?_ GE102.out) | exact HB.out)⟩⟩
                · rw [if_neg c8] at H
                  exact absurd H (by simp)
              · rw [if_neg c7] at H
                exact absurd H (by simp)
            · rw [if_neg c6] at H
              have c6b0 : decide (x21_2 < (l1.length : Int)) = false := decide_eq_false c6
              clear c6
              by_cases c20 : x6_2 > 2000
              · rw [if_pos c20] at H
                have c20b0 : decide (2000 < x6_2) = true := decide_eq_true c20
                clear c20
                obtain rfl := Option.some.inj H
                go_wp2
                go_ret
                exact ⟨by first | rfl | (simp [errW_none, errW_some] <;> rfl) | (simp [*, errW_none, errW_some] <;> rfl), by repeat (first | (with_reducible first | exact HB.out | apply below_alloc | apply pw_below_drewN | apply below_drew1) | exact HB.out)⟩
              · rw [if_neg c20] at H
                have c20b0 : decide (2000 < x6_2) = false := decide_eq_false c20
                clear c20
                obtain rfl := Option.some.inj H
                go_wp2
                go_ret
                exact ⟨by first | rfl | (simp [errW_none, errW_some] <;> rfl) | (simp [*, errW_none, errW_some] <;> rfl), by repeat (first | (with_reducible first | exact HB.out | apply below_alloc | apply pw_below_drewN | apply below_drew1) | exact HB.out)⟩

-- NOT PRINTED: function 148 (abi_NoEscape)

-- NOT PRINTED: function 138 (strings_Builder_copyCheck)

-- NOT PRINTED: function 113 (strings_Builder_WriteString)

-- NOT PRINTED: function 114 (strings_Builder_String)

section
open Go.Proofs.Ytbfedkmiekbcmaa.Hand
/-- What Apply writes, from an edit on. -/
def applyP (src : ByteArray) : List S137 → Int → List UInt8 → Option ByteArray
  | [], off, acc => if 0 ≤ off then (if off ≤ (src.size : Int) then (if acc.length + (src.extract off.toNat src.size).size ≤ 140737488355328 then some ⟨(acc ++ (src.extract off.toNat src.size).data.toList).toArray⟩ else none) else none) else none
  | e :: t, off, acc => if 0 ≤ off then (if off ≤ e.f0 then (if e.f0 ≤ (src.size : Int) then (if (src.extract off.toNat e.f0.toNat).size + e.f2.size ≤ 9223372036854775807 then (if acc.length + (src.extract off.toNat e.f0.toNat ++ e.f2).size ≤ 140737488355328 then applyP src t e.f1 (acc ++ (src.extract off.toNat e.f0.toNat ++ e.f2).data.toList) else none) else none) else none) else none) else none
def textedit_Apply.f (k : Nat) (src : ByteArray) (es : List S137) : Option (ByteArray × Int) :=
  (textedit_Validate.f k src es).bind fun c => if c = 0 then (applyP src es 0 []).map (fun r => (r, 0)) else some (⟨#[]⟩, c)
theorem textedit_Apply.mono : ∀ a0 a1 k, LeO (textedit_Apply.f k a0 a1) (textedit_Apply.f (k + 1) a0 a1) := by
  intro a0 a1 k
  unfold textedit_Apply.f
  exact LeO.bind (textedit_Validate.mono _ _ _) (fun _ => LeO.refl _)
def ApI (src : ByteArray) (es : List S137) (r : ByteArray) (w2 : World) (i : Nat) (off : Int) (W : World) : Prop :=
  ∃ acc, applyP src (es.drop i) off acc = some r ∧ Lib.IsBuilderF 182 5 w2.heap.size w2.heap.size (Lib.byteCells acc) W ∧ Below w2.heap.size w2 W
set_option maxRecDepth 100000 in
set_option maxHeartbeats 4000000 in
theorem textedit_Apply.calls (k : Nat) (a0 : ByteArray) (A1 : Option Addr) (c1 : Nat) (l1 : List (S137)) (r1 : ByteArray) (r2 : Int) (w : World) (hr1 : Kd.C k137 w A1 l1.length l1) (hc1 : l1.length ≤ c1) (h : textedit_Apply.f k a0 l1 = some (r1, r2)) :
    Calls Try.prog 63 #[.string a0, .slice A1 l1.length c1] w fun e w' => e = .returned (.tuple #[.string r1, .int .i64 r2]) ∧ Below w.heap.size w w' := by
  unfold textedit_Apply.f at h
  obtain ⟨c, hc, h⟩ := Option.bind_eq_some_iff.1 h
  have HQ := Aside0.mk hr1
  have HCQ := Aside0.mk hc1
  have HC := Aside0.mk hc
  have hlen := hr1.2.1
  clear hr1 hc1 hc
  by_cases e0 : c = 0
  · subst e0
    rw [if_pos rfl] at h
    obtain ⟨r, hn, he⟩ := Option.map_eq_some_iff.1 h
    injection he with h1 h2
    subst h1 h2
    have HN := Aside0.mk hn
    clear h hn
    go_enter Try.func63, Try.ntmps63
    go_upto_region 4 with (go_at_call 68; refine (textedit_Validate.calls k a0 A1 c1 l1 0 _ HQ.out HCQ.out HC.out).mono ?_; rintro e w2 ⟨rfl, hb2⟩; (have HB2 := Aside0.mk hb2); clear hb2)
    go_wp2
    go_loopg [8, 19] l1.length (fun kq v8 v19 W => ∃ (i : Nat) (off : Int), v8 = .int .i64 off ∧ v19 = .int .i64 (i : Int) ∧ kq + i = l1.length ∧ Aside0 (ApI a0 l1 r w2 i off W))
    case atStart =>
      refine ⟨0, 0, rfl, rfl, by omega, ⟨[], HN.out, Lib.IsBuilderF.of (Lib.fresh_isBuilder 182 5 w2), below_alloc (Below.refl _ _) _⟩⟩
    case round =>
      obtain ⟨i, off, rfl, rfl, hi, hR⟩ := hrel
      cases gk with
      | zero =>
        obtain rfl : i = l1.length := by omega
        obtain ⟨acc, hrun, hbu, hbel⟩ := hR.out
        rw [List.drop_length, applyP] at hrun
        split at hrun
        · next q0 =>
          split at hrun
          · next q1 =>
            split at hrun
            · next q2 =>
              injection hrun with hrun
              obtain ⟨L, hL⟩ : ∃ L, acc ++ (a0.extract off.toNat a0.size).data.toList = L := ⟨_, rfl⟩
              rw [hL] at hrun
              subst hrun
              have HL := Aside0.mk hL
              clear hL
              have HBU := Aside0.mk hbu
              have HBE := Aside0.mk hbel
              have HQ2 := Aside0.mk q2
              have p1 := eq_true q0
              have p2 := eq_true q1
              clear hbu hbel q2 q0 q1 hR HN hi
              try clear h
              go_upto_region 13 with (go_at_call 113; refine (bWrite w2.heap.size w2.heap.size (Lib.byteCells acc) (a0.extract off.toNat a0.size) _ HBU.out (by rw [Lib.byteCells_length]; exact HQ2.out) HBE.out.size).mono ?_; rintro e w3 ⟨rfl, h3, hb3, _⟩; (have H3 : Aside0 (Lib.IsBuilderF 182 5 w2.heap.size w2.heap.size (Lib.byteCells L) w3) := ⟨Or.inr (by rw [← HL.out, Lib.byteCells_append, ← Lib.strCells_eq]; exact h3)⟩); (have HB3 := Aside0.mk (HBE.out.trans hb3)); clear h3 hb3)
              go_wp2_with (go_at_call 114; refine (bString w2.heap.size w2.heap.size _ _ H3.out HB3.out.size).mono ?_; rintro e w4 ⟨rfl, _, hb4, _⟩)
              go_ret2
              exact ⟨rfl, HB2.out.trans ((HB3.out.trans hb4).mono HB2.out.size)⟩
            · cases hrun
          · cases hrun
        · cases hrun
      | succ k1 =>
        have hlt : i < l1.length := by omega
        obtain ⟨acc, hrun, hbu, hbel⟩ := hR.out
        rw [List.drop_eq_getElem_cons hlt] at hrun
        have hx := at_T137 (Kd.C_below HQ.out (HB2.out.trans (hbel.mono HB2.out.size))) (i : Int) (by omega) (by omega)
        obtain ⟨ad, hA, x0, x1, x2⟩ := hx
        have hq : rd_T137 l1 (i : Int) = l1[i] := by simp [rd_T137, List.getD_eq_getElem?_getD, hlt]
        rw [hq] at x0 x1 x2
        rw [Int.toNat_natCast] at x0 x1 x2
        obtain ⟨q, hqq⟩ : ∃ q, l1[i] = q := ⟨_, rfl⟩
        rw [hqq] at x0 x1 x2 hrun
        clear hq hqq
        rw [applyP] at hrun
        split at hrun
        · next q0 =>
          split at hrun
          · next q1 =>
            split at hrun
            · next q2 =>
              split at hrun
              · next q3 =>
                split at hrun
                · next q4 =>
                  obtain ⟨pc, hpc⟩ : ∃ pc, a0.extract off.toNat q.f0.toNat = pc := ⟨_, rfl⟩
                  rw [hpc] at q3 q4 hrun
                  have HBU := Aside0.mk hbu
                  have HBE := Aside0.mk hbel
                  have HQ4 := Aside0.mk q4
                  have HRUN := Aside0.mk hrun
                  have p1 := eq_true q0
                  have p2 := eq_true q1
                  have p3 := eq_true q2
                  have p4 := eq_true q3
                  have p8 : (9223372036854775807 < pc.size + q.f2.size) = False := eq_false (Nat.not_lt.2 q3)
                  have p5 : (0 ≤ (i : Int)) = True := eq_true (by omega)
                  have p6 : ((i : Int) < (l1.length : Int)) = True := eq_true (by omega)
                  have p7 : (q.f0 ≤ (a0.size : Int)) = True := p3
                  clear hbu hbel q4 q0 q1 q2 q3 hR HN hrun
                  subst hA
                  go_upto_region 9 with (fail)
                  have hbk := hb_new wr (.cells #[.int .i64 q.f0, .int .i64 q.f1, .string q.f2] 137)
                  have hsz : (wr.alloc (.cells #[.int .i64 q.f0, .int .i64 q.f1, .string q.f2] 137)).heap.size = wr.heap.size + 1 := World.size_alloc _ _
                  have HBU1 : Aside0 (Lib.IsBuilderF 182 5 w2.heap.size w2.heap.size (Lib.byteCells acc) (wr.alloc (.cells #[.int .i64 q.f0, .int .i64 q.f1, .string q.f2] 137))) := ⟨HBU.out.elim (fun h => .inl (h.alloc _)) (fun h => .inr (h.alloc _))⟩
                  have HBE1 : Aside0 (Below w2.heap.size w2 (wr.alloc (.cells #[.int .i64 q.f0, .int .i64 q.f1, .string q.f2] 137))) := ⟨HBE.out.trans (below_alloc (Below.refl _ _) _ |>.mono HBE.out.size)⟩
                  have HBLT : Aside0 (w2.heap.size < wr.heap.size) := ⟨HBU.out.elim (fun h => h.lt) (fun h => h.lt)⟩
                  have e0 : (wr.alloc (.cells #[.int .i64 q.f0, .int .i64 q.f1, .string q.f2] 137)).cell? ⟨wr.heap.size, 0, none⟩ = some (.int .i64 q.f0) := (cells_of_blk hbk 0).trans rfl
                  have e2 : (wr.alloc (.cells #[.int .i64 q.f0, .int .i64 q.f1, .string q.f2] 137)).cell? ⟨wr.heap.size, 2, none⟩ = some (.string q.f2) := (cells_of_blk hbk 2).trans rfl
                  have HBK := Aside0.mk hbk
                  have HSZ := Aside0.mk hsz
                  clear hbk hsz x0 x1 x2
                  generalize wr.alloc (.cells #[.int .i64 q.f0, .int .i64 q.f1, .string q.f2] 137) = W1 at *
                  go_region_held3 (fun w' => w'.cell? ⟨wr.heap.size, 0, none⟩ = some (.int .i64 q.f0) ∧ w'.cell? ⟨wr.heap.size, 2, none⟩ = some (.string q.f2))
                    (first | exact ⟨e0, e2⟩ | exact ⟨t0, t2⟩)
                    ((go_at_call 113
                      refine (bWrite w2.heap.size w2.heap.size (Lib.byteCells acc) (pc ++ q.f2) _ (HBU1.out.elim (fun h => .inl h.drew) (fun h => .inr h.drew)) (by rw [Lib.byteCells_length]; exact HQ4.out) (below_drew HBE1.out).size).mono ?_
                      rintro e w4 ⟨rfl, h4, hb4, hk4⟩
                      have hbk4 := hk4 _ _ HBK.out (by have := HBLT.out; intro e; injection e with e; omega) (by intro c fz e; cases e)
                      have t0 : w4.cell? ⟨wr.heap.size, 0, none⟩ = some (.int .i64 q.f0) := (cells_of_blk hbk4 0).trans rfl
                      have t1 : w4.cell? ⟨wr.heap.size, 1, none⟩ = some (.int .i64 q.f1) := (cells_of_blk hbk4 1).trans rfl
                      have t2 : w4.cell? ⟨wr.heap.size, 2, none⟩ = some (.string q.f2) := (cells_of_blk hbk4 2).trans rfl
                      have H4 : Aside0 (Lib.IsBuilderF 182 5 w2.heap.size w2.heap.size (Lib.byteCells (acc ++ (pc ++ q.f2).data.toList)) w4) := ⟨Or.inr (by rw [Lib.byteCells_append, ← Lib.strCells_eq]; exact h4)⟩
                      have HB4 : Aside0 (Below w2.heap.size w2 w4) := ⟨(below_drew HBE1.out).trans hb4⟩
                      clear h4 hb4 hk4 hbk4))
                  go_wp2
                  go_roundg k1
                  case measure => omega
                  case rel =>
                    exact ⟨i + 1, q.f1, rfl, by first | rfl | (congr 1; unfold wrap64; omega), by omega, ⟨_, HRUN.out, H4.out, HB4.out⟩⟩
                · cases hrun
              · cases hrun
            · cases hrun
          · cases hrun
        · cases hrun
  · rw [if_neg e0] at h
    injection h with h
    injection h with h1 h2
    subst h1 h2
    have b0 : (c != 0) = true := by simp [e0]
    have HE0 := Aside0.mk e0
    clear e0
    go_enter Try.func63, Try.ntmps63
    go_wp2_with (go_at_call 68; refine (textedit_Validate.calls k a0 A1 c1 l1 c _ HQ.out HCQ.out HC.out).mono ?_; rintro e w2 ⟨rfl, hb2⟩)
    go_ret2
    exact ⟨rfl, hb2⟩
end

/-! ### textedit_Invert: function 64 -/
def textedit_Invert.l0 : Nat → ByteArray → List (S137) → Int → List (S137) → Int → Int → Option ((List (S137)) × Int)
  | 0, _, _, _, _, _, _ => none
  | k + 1, x0, x7, x8, x18, x19, x20 => if x20 < x19 then (if 0 ≤ x20 then (if x20 < (x18.length : Int) then (if 0 ≤ ((rd_T137 x18 x20).f0) then (if ((rd_T137 x18 x20).f0) ≤ ((rd_T137 x18 x20).f1) then (if ((rd_T137 x18 x20).f1) ≤ (x0.size : Int) then (if x7.length < 4398046511104 then (textedit_Invert.l0 k x0 (x7 ++ [(⟨wrap64 (((rd_T137 x18 x20).f0) + x8), wrap64 ((wrap64 (((rd_T137 x18 x20).f0) + x8)) + (((rd_T137 x18 x20).f2).size : Int)), x0.extract (((rd_T137 x18 x20).f0) : Int).toNat (((rd_T137 x18 x20).f1) : Int).toNat⟩ : S137)]) (wrap64 (x8 + (wrap64 ((((rd_T137 x18 x20).f2).size : Int) - (wrap64 (((rd_T137 x18 x20).f1) - ((rd_T137 x18 x20).f0))))))) x18 x19 (wrap64 (x20 + 1))) else (none)) else (none)) else (none)) else (none)) else (none)) else (none)) else (some (x7, 0))
def textedit_Invert.f (k : Nat) (a0 : ByteArray) (l1 : List (S137)) : Option ((List (S137)) × Int) := (textedit_Validate.f k a0 l1).bind fun t103 => (if t103 = 0 then (textedit_Invert.l0 k a0 ([] : List (S137)) 0 l1 (l1.length : Int) 0) else (some (([] : List (S137)), t103)))
theorem textedit_Invert.mono_l : ∀ k, (∀ y0 y1 y2 y3 y4 y5, LeO (textedit_Invert.l0 k y0 y1 y2 y3 y4 y5) (textedit_Invert.l0 (k + 1) y0 y1 y2 y3 y4 y5))
  | 0 => fun _ _ _ _ _ _ r h => by simp [textedit_Invert.l0] at h
  | k + 1 => by
    have ih0 := textedit_Invert.mono_l k
    · intro y0 y1 y2 y3 y4 y5
      unfold textedit_Invert.l0
      repeat' first
      | (with_reducible exact ih0 _ _ _ _ _ _)
      | (with_reducible exact textedit_Validate.mono _ _ _)
      | (with_reducible exact LeO.refl _)
      | (with_reducible exact LeO.none _)
      | (with_reducible refine LeO.ite ?_ ?_)
      | (with_reducible refine LeO.bind ?_ (fun _ => ?_))
      | exact ih0 _ _ _ _ _ _
      | exact textedit_Validate.mono _ _ _
      | exact LeO.none _
      | refine LeO.ite ?_ ?_
      | refine LeO.bind ?_ (fun _ => ?_)
theorem textedit_Invert.mono : ∀ a0 a1 k, LeO (textedit_Invert.f k a0 a1) (textedit_Invert.f (k + 1) a0 a1) := by
  intro a0 a1 k
  have ih0 := textedit_Invert.mono_l k
  unfold textedit_Invert.f
  repeat' first
      | (with_reducible exact ih0 _ _ _ _ _ _)
      | (with_reducible exact textedit_Validate.mono _ _ _)
      | (with_reducible exact LeO.refl _)
      | (with_reducible exact LeO.none _)
      | (with_reducible refine LeO.ite ?_ ?_)
      | (with_reducible refine LeO.bind ?_ (fun _ => ?_))
      | exact ih0 _ _ _ _ _ _
      | exact textedit_Validate.mono _ _ _
      | exact LeO.none _
      | refine LeO.ite ?_ ?_
      | refine LeO.bind ?_ (fun _ => ?_)
def textedit_Invert.T10 : Bool × List (List Nat × List Nat) := (true, [([], []), ([], []), ([], []), ([], []), ([3], [3]), ([4], [4]), ([2, 5], [2, 5]), ([], []), ([], []), ([8], [8]), ([], []), ([10], [10]), ([7, 9, 11], [7, 9, 11]), ([1, 6, 12], [1, 6, 12]), ([13], [13]), ([0, 14], [0, 14]), ([15, 15, 0, 1, 2, 3, 4, 5, 6, 7, 8, 9, 10, 11, 12, 13, 14, 15], [0, 15])])
def textedit_Invert.B10 : List Nat := [0, 0, 0, 0, 8, 24, 60, 0, 0, 256, 0, 1024, 3968, 8190, 16382, 32767, 65535]
theorem textedit_Invert.tab10 : rtab .any (opsOf Try.f64 10) = textedit_Invert.T10 := by kernel_rfl
theorem textedit_Invert.bits10 : waitsOk textedit_Invert.T10.2 textedit_Invert.B10 = true := by kernel_rfl
set_option maxHeartbeats 8000000 in
set_option maxRecDepth 100000 in
theorem textedit_Invert.calls (k : Nat) (a0 : ByteArray) (A1 : Option Addr) (c1 : Nat) (l1 : List (S137)) (r1 : List (S137)) (r2 : Int) (w : World) (hr1 : Kd.C k137 w A1 l1.length l1) (hc1 : l1.length ≤ c1) (h : textedit_Invert.f k a0 l1 = some (r1, r2)) :
    Calls Try.prog 64 #[.string a0, .slice A1 l1.length c1] w fun e w' => ∃ v0_ : Value, e = .returned (.tuple #[v0_, .int .i64 r2]) ∧ Kd.R k137 137 w' w.heap.size (fun _ => True) v0_ r1 ∧ Below w.heap.size w w' := by
  have hu137 := Try.underlying137
  have HR1 := Aside0.mk hr1
  have HC1 := Aside0.mk hc1
  clear hr1 hc1
  have HB := Aside0.mk (Below.refl w.heap.size w)
  have H : ((textedit_Validate.f k a0 l1).bind fun t103 => (if t103 = 0 then (textedit_Invert.l0 k a0 ([] : List (S137)) 0 l1 (l1.length : Int) 0) else (some (([] : List (S137)), t103)))) = some (r1, r2) := h
  clear h
  replace H := Option.bind_eq_some_iff.mp H
  obtain ⟨t103, A30, H⟩ := H
  replace H : (if t103 = 0 then (textedit_Invert.l0 k a0 ([] : List (S137)) 0 l1 (l1.length : Int) 0) else (some (([] : List (S137)), t103))) = some (r1, r2) := H
  have A3 := Aside0.mk A30
  clear A30
  by_cases c4 : t103 = 0
  · rw [if_pos c4] at H
    have c4b0 : (t103 == 0) = true := beq_iff_eq.mpr c4
    have c4b1 : (t103 != 0) = false := bne_eq_false_iff_eq.mpr c4
    clear c4
    have H' := Aside0.mk H
    clear H
    go_enter Try.func64, Try.ntmps64
    go_wp2_with (first | ((with_reducible refine gate_callee (f := 68) rfl ?_); refine goesL_ (some 14) rfl rfl Try.func68 (by kernel_rfl) rfl #[.string a0, .slice A1 l1.length c1] rfl (by (try simp only [List.map_toArray, List.map_cons, List.map_nil]); first | done | rfl | (simp only [List.length_drop, List.length_take]; rfl)) ?_; (with_reducible refine (textedit_Validate.calls k a0 _ _ l1 t103 _ ?side1 ?side2 A3.out).mono ?_); (case side1 => repeat (first | exact HR1.out | (with_reducible refine Kd.C_alloc ?_ _) | (with_reducible refine Kd.C_drewN ?_ _) | (with_reducible refine Kd.C_drew ?_))); (case side2 => exact HC1.out); rintro e w5 ⟨rfl, hb⟩; refine ⟨_, rfl, ?_⟩; have n0_ := Aside0.mk (below_step (by repeat (first | (with_reducible first | exact HB.out | apply below_alloc | apply pw_below_drewN | apply below_drew1) | exact HB.out)) hb); clear HB; have HB := n0_; clear n0_; (try clear hb); (try clear hb2); (try clear hk); (try clear hi)))
    go_loopg [7, 8, 20] k (fun kq v7 v8 v20 w' => ∃ (x7_1 : List (S137)) (x8_1 : Int) (x20_1 : Int), v8 = .int .i64 x8_1 ∧ v20 = .int .i64 x20_1 ∧ Aside0 (textedit_Invert.l0 kq a0 x7_1 x8_1 l1 (l1.length : Int) x20_1 = some (r1, r2)) ∧ Aside0 (kq ≤ k) ∧ Aside0 (Kd.R k137 137 w' w.heap.size (fun _ => True) v7 x7_1) ∧ Aside0 (Below w.heap.size w w'))
    case atStart => exact ⟨(([] : List (S137))), (0), (0), (by first | rfl | (simp; done) | (simp [*]; done) | (simp [isEmpty_bne]; done)), (by first | rfl | (simp; done) | (simp [*]; done) | (simp [isEmpty_bne]; done)), H', ⟨Nat.le_refl _⟩, ⟨by first | exact Kd.R_nil _ _ _ _ _ | exact Kd.N_nil _ _ _ _ _ | exact Kd.V_nil _ _ _ _ _ | exact Kd.Q_nil _ _ _ _ _ | exact Kd.S_nil _ _ _ _ _⟩, ⟨by repeat (first | (with_reducible first | exact HB.out | apply below_alloc | apply pw_below_drewN | apply below_drew1) | exact HB.out)⟩⟩
    case round =>
      clear H'
      try clear c1
      try clear p2
      try clear c4
      try clear c4b0
      try clear c4b1
      obtain ⟨x7_1, x8_1, x20_1, rfl, rfl, HA, HK1, HO_7, HB⟩ := hrel
      cases gk with
      | zero => exact absurd HA.out (by simp [textedit_Invert.l0])
      | succ k1 =>
        have H := HA.out
        clear HA
        simp only [textedit_Invert.l0] at H
        by_cases c6 : x20_1 < (l1.length : Int)
        · rw [if_pos c6] at H
          have c6b0 : decide (x20_1 < (l1.length : Int)) = true := decide_eq_true c6
          clear c6
          by_cases c7 : 0 ≤ x20_1
          · rw [if_pos c7] at H
            have c7b0 : decide (0 ≤ x20_1) = true := decide_eq_true c7
            clear c7
            by_cases c8 : x20_1 < (l1.length : Int)
            · rw [if_pos c8] at H
              have c8b0 : decide (x20_1 < (l1.length : Int)) = true := decide_eq_true c8
              clear c8
              by_cases c9 : 0 ≤ ((rd_T137 l1 x20_1).f0)
              · rw [if_pos c9] at H
                have c9b0 := eq_true c9
                have c9b1 : decide (0 ≤ ((rd_T137 l1 x20_1).f0)) = true := decide_eq_true c9
                clear c9
                by_cases c10 : ((rd_T137 l1 x20_1).f0) ≤ ((rd_T137 l1 x20_1).f1)
                · rw [if_pos c10] at H
                  have c10b0 := eq_true c10
                  have c10b1 : decide (((rd_T137 l1 x20_1).f0) ≤ ((rd_T137 l1 x20_1).f1)) = true := decide_eq_true c10
                  clear c10
                  by_cases c11 : ((rd_T137 l1 x20_1).f1) ≤ (a0.size : Int)
                  · rw [if_pos c11] at H
                    have c11b0 := eq_true c11
                    have c11b1 : decide (((rd_T137 l1 x20_1).f1) ≤ (a0.size : Int)) = true := decide_eq_true c11
                    clear c11
                    by_cases c12 : x7_1.length < 4398046511104
                    · rw [if_pos c12] at H
                      have LMc12 := Aside0.mk c12
                      clear c12
                      obtain ⟨y106, hy106⟩ : ∃ y_ : List (S137), y_ = (x7_1 ++ [(⟨wrap64 (((rd_T137 l1 x20_1).f0) + x8_1), wrap64 ((wrap64 (((rd_T137 l1 x20_1).f0) + x8_1)) + (((rd_T137 l1 x20_1).f2).size : Int)), a0.extract (((rd_T137 l1 x20_1).f0) : Int).toNat (((rd_T137 l1 x20_1).f1) : Int).toNat⟩ : S137)]) := ⟨_, rfl⟩
                      replace H : (textedit_Invert.l0 k1 a0 y106 (wrap64 (x8_1 + (wrap64 ((((rd_T137 l1 x20_1).f2).size : Int) - (wrap64 (((rd_T137 l1 x20_1).f1) - ((rd_T137 l1 x20_1).f0))))))) l1 (l1.length : Int) (wrap64 (x20_1 + 1))) = some (r1, r2) := by first | (rw [hy106]; with_reducible exact H) | (have H2_ := (Option.bind_some _ _).symm.trans H; rw [hy106]; with_reducible exact H2_) | (have H2_ := (Option.bind_some _ _).symm.trans H; with_reducible exact H2_) | with_reducible exact H | (rw [hy106]; exact H) | exact H
                      have Ny106 := Aside0.mk hy106
                      clear hy106
                      have H' := Aside0.mk H
                      clear H
                      have p104 : 0 ≤ (x20_1 : Int) := of_decide_eq_true (by first | (with_reducible assumption) | assumption)
                      have q104 : x20_1 < (l1.length : Int) := of_decide_eq_true (by first | (with_reducible assumption) | assumption)
                      obtain ⟨ad104, e104, hx104_0, hx104_1, hx104_2⟩ := at_T137 HR1.out x20_1 p104 q104
                      cases e104
                      replace hx104_0 := (HB.out.cell (World.block_lt_of_cell? w _ hx104_0)).trans hx104_0
                      replace hx104_1 := (HB.out.cell (World.block_lt_of_cell? w _ hx104_1)).trans hx104_1
                      replace hx104_2 := (HB.out.cell (World.block_lt_of_cell? w _ hx104_2)).trans hx104_2
                      replace p104 := eq_true p104
                      replace q104 := eq_true q104
                      try go_wp2_with (first | ((with_reducible refine gate_dst (N := 10) rfl ?_); refine box_event ?hg (N := 10) ?hd (cs := #[.int .i64 0, .int .i64 0, .string (⟨#[]⟩ : ByteArray)]) (t := 137) ?hr ?_; (case hd => rfl); (case hg => rfl); (case hr => first | (go_simp; done) | (go_simp; rfl)); intro gb105 hg w13 hbox hb; have n0_ := Aside0.mk (Kd.R_below (Kd.R_elderB (by (with_reducible repeat (first | apply Kd.R_alloc | apply Kd.R_drewN | apply Kd.R_drew)); exact HO_7.out) gb105 (Nat.le_of_eq hg.symm)) hb); have n1_ := Aside0.mk (below_step (by repeat (first | (with_reducible first | exact HB.out | apply below_alloc | apply pw_below_drewN | apply below_drew1) | exact HB.out)) hb); have n2_ := Aside0.mk (hbox); have n3_ := Aside0.mk ((by rw [hg]; exact (below_size (by repeat (first | (with_reducible first | exact HB.out | apply below_alloc | apply pw_below_drewN | apply below_drew1) | exact HB.out))) : w.heap.size ≤ gb105)); have n4_ := Aside0.mk ((by rw [hg]; exact (below_size (by repeat (first | (with_reducible first | exact HB.out | apply below_alloc | apply pw_below_drewN | apply below_drew1) | exact HB.out))) : w.heap.size ≤ gb105)); clear HO_7; clear HB; have HO_7 := n0_; have HB := n1_; have BK105 := n2_; have GW105 := n3_; have GE105 := n4_; clear n0_ n1_ n2_ n3_ n4_; clear hb hbox hg; have hcz14_0 : w13.cell? ⟨gb105, 0, none⟩ = some (.int .i64 0) := (blk_cell BK105.out 0).trans rfl; have hcz14_1 : w13.cell? ⟨gb105, 1, none⟩ = some (.int .i64 0) := (blk_cell BK105.out 1).trans rfl; have hcz14_2 : w13.cell? ⟨gb105, 2, none⟩ = some (.string (⟨#[]⟩ : ByteArray)) := (blk_cell BK105.out 2).trans rfl; have hfz14_0 := blk_frozen BK105.out 0; have hfz14_1 := blk_frozen BK105.out 1; have hfz14_2 := blk_frozen BK105.out 2))
                      have n0_ : Aside0 (Kd.R k137 137 (((w13.setCell ⟨gb105, 0, none⟩ (.int .i64 ((rd_T137 l1 x20_1).f0))).setCell ⟨gb105, 1, none⟩ (.int .i64 ((rd_T137 l1 x20_1).f1))).setCell ⟨gb105, 2, none⟩ (.string ((rd_T137 l1 x20_1).f2))) w.heap.size (fun k_ => k_ ≠ gb105) u7 x7_1) := ⟨by (with_reducible repeat (first | apply Kd.R_alloc | apply Kd.R_drewN | apply Kd.R_drew)); exact Kd.R_mono (Kd.R_far (p := ⟨gb105, 2, none⟩) (Kd.R_far (p := ⟨gb105, 1, none⟩) (Kd.R_far (p := ⟨gb105, 0, none⟩) (Kd.R_mono HO_7.out (fun k_ hk => (⟨hk, hk.2⟩ : _ ∧ k_ ≠ gb105))) (fun _ hk => hk.2) (.int .i64 ((rd_T137 l1 x20_1).f0))) (fun _ hk => hk.2) (.int .i64 ((rd_T137 l1 x20_1).f1))) (fun _ hk => hk.2) (.string ((rd_T137 l1 x20_1).f2))) (fun _ hk => hk.1.2)⟩
                      have n1_ : Aside0 ((((w13.setCell ⟨gb105, 0, none⟩ (.int .i64 ((rd_T137 l1 x20_1).f0))).setCell ⟨gb105, 1, none⟩ (.int .i64 ((rd_T137 l1 x20_1).f1))).setCell ⟨gb105, 2, none⟩ (.string ((rd_T137 l1 x20_1).f2))).heap[gb105]? = some (.cells #[.int .i64 ((rd_T137 l1 x20_1).f0), .int .i64 ((rd_T137 l1 x20_1).f1), .string ((rd_T137 l1 x20_1).f2)] 137 (0, 0))) := ⟨by (with_reducible repeat (first | refine blk_drewN ?_ _ | refine blk_drew ?_ | refine blk_alloc ?_ _)); refine blk_put (cs := #[.int .i64 ((rd_T137 l1 x20_1).f0), .int .i64 ((rd_T137 l1 x20_1).f1), .string (⟨#[]⟩ : ByteArray)]) ?_ 2 _ rfl; (with_reducible repeat (first | refine blk_drewN ?_ _ | refine blk_drew ?_ | refine blk_alloc ?_ _)); refine blk_put (cs := #[.int .i64 ((rd_T137 l1 x20_1).f0), .int .i64 0, .string (⟨#[]⟩ : ByteArray)]) ?_ 1 _ rfl; (with_reducible repeat (first | refine blk_drewN ?_ _ | refine blk_drew ?_ | refine blk_alloc ?_ _)); refine blk_put (cs := #[.int .i64 0, .int .i64 0, .string (⟨#[]⟩ : ByteArray)]) ?_ 0 _ rfl; (with_reducible repeat (first | refine blk_drewN ?_ _ | refine blk_drew ?_ | refine blk_alloc ?_ _)); exact BK105.out⟩
                      have n2_ : Aside0 (Below w.heap.size w (((w13.setCell ⟨gb105, 0, none⟩ (.int .i64 ((rd_T137 l1 x20_1).f0))).setCell ⟨gb105, 1, none⟩ (.int .i64 ((rd_T137 l1 x20_1).f1))).setCell ⟨gb105, 2, none⟩ (.string ((rd_T137 l1 x20_1).f2)))) := ⟨by repeat (first | (with_reducible first | exact HB.out | apply below_alloc | apply pw_below_drewN | apply below_drew1 | refine below_set ?_ GE105.out) | exact HB.out)⟩
                      (try clear HO_7)
                      (try clear BK105)
                      (try clear HB)
                      generalize (((w13.setCell ⟨gb105, 0, none⟩ (.int .i64 ((rd_T137 l1 x20_1).f0))).setCell ⟨gb105, 1, none⟩ (.int .i64 ((rd_T137 l1 x20_1).f1))).setCell ⟨gb105, 2, none⟩ (.string ((rd_T137 l1 x20_1).f2))) = w15 at n0_ n1_ n2_ ⊢
                      have HO_7 := n0_
                      have BK105 := n1_
                      have HB := n2_
                      clear n0_ n1_ n2_
                      have n0_ := Aside0.mk (Kd.R_drew HO_7.out)
                      have n1_ := Aside0.mk (blk_drew BK105.out)
                      have n2_ := Aside0.mk (below_drew1 HB.out)
                      clear HO_7
                      clear BK105
                      clear HB
                      have HO_7 := n0_
                      have BK105 := n1_
                      have HB := n2_
                      clear n0_ n1_ n2_
                      refine start_ (n := 17) (S := fun w' => w'.cell? ⟨gb105, 0, none⟩ = some (.int .i64 ((rd_T137 l1 x20_1).f0)) ∧ w'.cell? ⟨gb105, 1, none⟩ = some (.int .i64 ((rd_T137 l1 x20_1).f1)) ∧ w'.cell? ⟨gb105, 2, none⟩ = some (.string ((rd_T137 l1 x20_1).f2))) (ds := []) #[false, false, false, false, false, false, false, false, false, false, false, false, false, false, false, false, false] (by kernel_rfl) rfl rfl ⟨(blk_cell BK105.out 0).trans rfl, (blk_cell BK105.out 1).trans rfl, (blk_cell BK105.out 2).trans rfl⟩ (fun hHeld => ?_); refine with_tabW textedit_Invert.tab10 textedit_Invert.bits10 (fun HT_ HW_ => ?_)
                      generalize w15.drew = w16 at HO_7 BK105 HB hHeld ⊢
                      refine pure_ (i := 0) (N := some 28) (v := ?_) (a' := ?_) #[true, false, false, false, false, false, false, false, false, false, false, false, false, false, false, false, false] rfl rfl (any_of HT_.out (by kernel_rfl)) (fun _ _ _ h => h) (Or.inl ⟨by rfl, ?_⟩) ?_ ?_
                      rotate_left
                      · intro w'
                        go_simp
                        with_reducible rfl
                      rotate_left
                      · simp only [Act.put, List.setIfInBounds_toArray, List.set_cons_zero, List.set_cons_succ, i64_w, i32_w]
                        rfl
                      refine pure_ (i := 1) (N := some 29) (v := ?_) (a' := ?_) #[true, true, false, false, false, false, false, false, false, false, false, false, false, false, false, false, false] rfl rfl (any_of HT_.out (by kernel_rfl)) (fun _ _ _ h => h) (Or.inl ⟨by rfl, ?_⟩) ?_ ?_
                      rotate_left
                      · intro w'
                        go_simp
                        with_reducible rfl
                      rotate_left
                      · simp only [Act.put, List.setIfInBounds_toArray, List.set_cons_zero, List.set_cons_succ, i64_w, i32_w]
                        rfl
                      refine pure_ (i := 2) (N := some 30) (v := ?_) (a' := ?_) #[true, true, true, false, false, false, false, false, false, false, false, false, false, false, false, false, false] rfl rfl (any_of HT_.out (by kernel_rfl)) (fun _ _ _ h => h) (Or.inl ⟨by rfl, ?_⟩) ?_ ?_
                      rotate_left
                      · intro w'
                        go_simp
                        with_reducible rfl
                      rotate_left
                      · simp only [Act.put, List.setIfInBounds_toArray, List.set_cons_zero, List.set_cons_succ, i64_w, i32_w]
                        rfl
                      refine pure_ (i := 3) (N := some 31) (v := ?_) (a' := ?_) #[true, true, true, true, false, false, false, false, false, false, false, false, false, false, false, false, false] rfl rfl (any_of HT_.out (by kernel_rfl)) (fun _ _ _ h => h) (Or.inl ⟨by rfl, ?_⟩) ?_ ?_
                      rotate_left
                      · intro w'
                        go_simp
                        with_reducible rfl
                      rotate_left
                      · simp only [Act.put, List.setIfInBounds_toArray, List.set_cons_zero, List.set_cons_succ, i64_w, i32_w]
                        rfl
                      refine pure_ (i := 7) (N := some 35) (v := ?_) (a' := ?_) #[true, true, true, true, false, false, false, true, false, false, false, false, false, false, false, false, false] rfl rfl (any_of HT_.out (by kernel_rfl)) (fun _ _ _ h => h) (Or.inl ⟨by rfl, ?_⟩) ?_ ?_
                      rotate_left
                      · intro w'
                        go_simp
                        with_reducible rfl
                      rotate_left
                      · simp only [Act.put, List.setIfInBounds_toArray, List.set_cons_zero, List.set_cons_succ, i64_w, i32_w]
                        rfl
                      refine pure_ (i := 8) (N := some 36) (v := ?_) (a' := ?_) #[true, true, true, true, false, false, false, true, true, false, false, false, false, false, false, false, false] rfl rfl (any_of HT_.out (by kernel_rfl)) (fun _ _ _ h => h) (Or.inl ⟨by rfl, ?_⟩) ?_ ?_
                      rotate_left
                      · intro w'
                        go_simp
                        with_reducible rfl
                      rotate_left
                      · simp only [Act.put, List.setIfInBounds_toArray, List.set_cons_zero, List.set_cons_succ, i64_w, i32_w]
                        rfl
                      refine pure_ (i := 10) (N := some 38) (v := ?_) (a' := ?_) #[true, true, true, true, false, false, false, true, true, false, true, false, false, false, false, false, false] rfl rfl (any_of HT_.out (by kernel_rfl)) (fun _ _ _ h => h) (Or.inl ⟨by rfl, ?_⟩) ?_ ?_
                      rotate_left
                      · intro w'
                        go_simp
                        with_reducible rfl
                      rotate_left
                      · simp only [Act.put, List.setIfInBounds_toArray, List.set_cons_zero, List.set_cons_succ, i64_w, i32_w]
                        rfl
                      refine take_ (i := 4) (N := some 32) (v := ?_) (a' := ?_) #[true, true, true, true, true, false, false, true, true, false, true, false, false, false, false, false, false] rfl rfl (take_ofW HT_.out HW_.out (by kernel_rfl)) (fun _ _ _ h => h) (Or.inl ⟨by rfl, ?_⟩) hHeld ?_ ?_
                      rotate_left
                      · rintro w' ⟨s0, s1, s2⟩
                        go_simp
                        with_reducible rfl
                      rotate_left
                      · simp only [Act.put, List.setIfInBounds_toArray, List.set_cons_zero, List.set_cons_succ, i64_w, i32_w]
                        rfl
                      refine pure_ (i := 5) (N := some 33) (v := ?_) (a' := ?_) #[true, true, true, true, true, true, false, true, true, false, true, false, false, false, false, false, false] rfl rfl (any_of HT_.out (by kernel_rfl)) (fun _ _ _ h => h) (Or.inl ⟨by rfl, ?_⟩) ?_ ?_
                      rotate_left
                      · intro w'
                        go_simp
                        with_reducible rfl
                      rotate_left
                      · simp only [Act.put, List.setIfInBounds_toArray, List.set_cons_zero, List.set_cons_succ, i64_w, i32_w]
                        rfl
                      refine pure_ (i := 6) (N := some 34) (v := ?_) (a' := ?_) #[true, true, true, true, true, true, true, true, true, false, true, false, false, false, false, false, false] rfl rfl (any_of HT_.out (by kernel_rfl)) (fun _ _ _ h => h) (Or.inl ⟨by rfl, ?_⟩) ?_ ?_
                      rotate_left
                      · intro w'
                        go_simp
                        with_reducible rfl
                      rotate_left
                      · simp only [Act.put, List.setIfInBounds_toArray, List.set_cons_zero, List.set_cons_succ, i64_w, i32_w]
                        rfl
                      refine take_ (i := 9) (N := some 37) (v := ?_) (a' := ?_) #[true, true, true, true, true, true, true, true, true, true, true, false, false, false, false, false, false] rfl rfl (take_ofW HT_.out HW_.out (by kernel_rfl)) (fun _ _ _ h => h) (Or.inl ⟨by rfl, ?_⟩) hHeld ?_ ?_
                      rotate_left
                      · rintro w' ⟨s0, s1, s2⟩
                        go_simp
                        with_reducible rfl
                      rotate_left
                      · simp only [Act.put, List.setIfInBounds_toArray, List.set_cons_zero, List.set_cons_succ, i64_w, i32_w]
                        rfl
                      refine take_ (i := 11) (N := some 39) (v := ?_) (a' := ?_) #[true, true, true, true, true, true, true, true, true, true, true, true, false, false, false, false, false] rfl rfl (take_ofW HT_.out HW_.out (by kernel_rfl)) (fun _ _ _ h => h) (Or.inl ⟨by rfl, ?_⟩) hHeld ?_ ?_
                      rotate_left
                      · rintro w' ⟨s0, s1, s2⟩
                        go_simp
                        with_reducible rfl
                      rotate_left
                      · simp only [Act.put, List.setIfInBounds_toArray, List.set_cons_zero, List.set_cons_succ, i64_w, i32_w]
                        rfl
                      refine pure_ (i := 12) (N := some 40) (v := ?_) (a' := ?_) #[true, true, true, true, true, true, true, true, true, true, true, true, true, false, false, false, false] rfl rfl (any_of HT_.out (by kernel_rfl)) (fun _ _ _ h => h) (Or.inl ⟨by rfl, ?_⟩) ?_ ?_
                      rotate_left
                      · intro w'
                        go_simp
                        with_reducible rfl
                      rotate_left
                      · simp only [Act.put, List.setIfInBounds_toArray, List.set_cons_zero, List.set_cons_succ, i64_w, i32_w]
                        rfl
                      refine pure_ (i := 13) (N := some 41) (v := ?_) (a' := ?_) #[true, true, true, true, true, true, true, true, true, true, true, true, true, true, false, false, false] rfl rfl (any_of HT_.out (by kernel_rfl)) (fun _ _ _ h => h) (Or.inl ⟨by rfl, ?_⟩) ?_ ?_
                      rotate_left
                      · intro w'
                        go_simp
                        with_reducible rfl
                      rotate_left
                      · simp only [Act.put, List.setIfInBounds_toArray, List.set_cons_zero, List.set_cons_succ, i64_w, i32_w]
                        rfl
                      refine one_ (i := 14) (N := some 42) #[true, true, true, true, true, true, true, true, true, true, true, true, true, true, true, false, false] rfl rfl (one_of HT_.out (by kernel_rfl)) (by decide) (fun K hK => ?_)
                      refine value_ (w1 := ?_) (v := ?_) (by rfl) rfl ?_ ?_
                      rotate_left 2
                      · go_simp
                        constructor
                        · rfl
                        · rfl
                      refine hK.out _ _ ⟨(blk_cell (blk_alloc BK105.out _) 0).trans rfl, (blk_cell (blk_alloc BK105.out _) 1).trans rfl, (blk_cell (blk_alloc BK105.out _) 2).trans rfl⟩ (fun hHeld => ?_)
                      clear hK K
                      refine norm_ (a' := ?_) ?_ ?_
                      rotate_left
                      · show Act.put _ (some 42) _ = _
                        simp only [Act.put, List.setIfInBounds_toArray, List.set_cons_zero, List.set_cons_succ, i64_w, i32_w]
                        rfl
                      refine one_ (i := 15) (N := some 43) #[true, true, true, true, true, true, true, true, true, true, true, true, true, true, true, true, false] rfl rfl (one_of HT_.out (by kernel_rfl)) (by decide) (fun K hK => ?_)
                      refine Kd.R_append_step k137 (w0 := w) w.heap.size (by rfl) (.tmp 28) (.tmp 42) 57 137 (.agg #[(.int .i64 0), (.int .i64 0), (.string ⟨#[]⟩)]) 32 rfl Try.underlying57 info137 rfl (by decide) (by omega) u7 x7_1 (⟨wrap64 (((rd_T137 l1 x20_1).f0) + x8_1), wrap64 ((wrap64 (((rd_T137 l1 x20_1).f0) + x8_1)) + (((rd_T137 l1 x20_1).f2).size : Int)), a0.extract (((rd_T137 l1 x20_1).f0) : Int).toNat (((rd_T137 l1 x20_1).f1) : Int).toNat⟩ : S137) [.int .i64 (wrap64 (((rd_T137 l1 x20_1).f0) + x8_1)), .int .i64 (wrap64 ((wrap64 (((rd_T137 l1 x20_1).f0) + x8_1)) + (((rd_T137 l1 x20_1).f2).size : Int))), .string (a0.extract (((rd_T137 l1 x20_1).f0) : Int).toNat (((rd_T137 l1 x20_1).f1) : Int).toNat)] (fun k_ => k_ ≠ gb105) (fun _ => False) rfl rfl ?aP (fun _ hk => hk.elim) ?aF ?aO ?aB ?aS ?aL ?_
                      (case aP => exact k137_mkM _ _ _ (⟨wrap64 (((rd_T137 l1 x20_1).f0) + x8_1), wrap64 ((wrap64 (((rd_T137 l1 x20_1).f0) + x8_1)) + (((rd_T137 l1 x20_1).f2).size : Int)), a0.extract (((rd_T137 l1 x20_1).f0) : Int).toNat (((rd_T137 l1 x20_1).f1) : Int).toNat⟩ : S137))
                      (case aB => exact (by repeat (first | (with_reducible first | exact HB.out | apply below_alloc | apply pw_below_drewN | apply below_drew1 | refine below_set ?_ GE105.out) | exact HB.out)))
                      (case aF => exact (fun k_ hk => Kd.freshB (g := gb105) (o := .cells #[.int .i64 ((rd_T137 l1 x20_1).f0), .int .i64 ((rd_T137 l1 x20_1).f1), .string ((rd_T137 l1 x20_1).f2)] 137 (0, 0)) (by (with_reducible repeat (first | refine blk_drewN ?_ _ | refine blk_drew ?_ | refine blk_alloc ?_ _)); exact BK105.out) k_ hk))
                      (case aO => exact (by (with_reducible repeat (first | apply Kd.R_alloc | apply Kd.R_drewN | apply Kd.R_drew)); exact HO_7.out))
                      (case aS => exact (below_size (by repeat (first | (with_reducible first | exact HB.out | apply below_alloc | apply pw_below_drewN | apply below_drew1 | refine below_set ?_ GE105.out) | exact HB.out))))
                      (case aL => have := LMc12.out; omega)
                      intro v107 w17 ho hb hg hat
                      rw [← Ny106.out] at ho
                      have n0_ := Aside0.mk (blk_grown (g := gb105) (o := .cells #[.int .i64 ((rd_T137 l1 x20_1).f0), .int .i64 ((rd_T137 l1 x20_1).f1), .string ((rd_T137 l1 x20_1).f2)] 137 (0, 0)) (by (with_reducible repeat (first | refine blk_drewN ?_ _ | refine blk_drew ?_ | refine blk_alloc ?_ _)); exact BK105.out) hg (Kd.R_away HO_7.out (fun _ hk => hk)))
                      have n1_ := Aside0.mk (hb)
                      have n2_ := Aside0.mk (ho)
                      clear BK105
                      clear HB
                      clear HO_7
                      have BK105 := n0_
                      have HB := n1_
                      have HO108 := n2_
                      clear n0_ n1_ n2_
                      clear ho hb hg hat
                      refine hK.out _ _ ⟨(blk_cell BK105.out 0).trans rfl, (blk_cell BK105.out 1).trans rfl, (blk_cell BK105.out 2).trans rfl⟩ (fun hHeld => ?_)
                      clear hK K
                      refine norm_ (a' := ?_) ?_ ?_
                      rotate_left
                      · show Act.put _ (some 43) _ = _
                        simp only [Act.put, List.setIfInBounds_toArray, List.set_cons_zero, List.set_cons_succ, i64_w, i32_w]
                        rfl
                      refine pure_ (i := 16) (N := some 7) (v := ?_) (a' := ?_) #[true, true, true, true, true, true, true, true, true, true, true, true, true, true, true, true, true] rfl rfl (any_of HT_.out (by kernel_rfl)) (fun _ _ _ h => h) (Or.inl ⟨by rfl, ?_⟩) ?_ ?_
                      rotate_left
                      · intro w'
                        go_simp
                        with_reducible rfl
                      rotate_left
                      · simp only [Act.put, List.setIfInBounds_toArray, List.set_cons_zero, List.set_cons_succ, i64_w, i32_w]
                        rfl
                      refine done_ (done_of HT_.out (by kernel_rfl)) ?_
                      have hcz18_0 : w17.cell? ⟨gb105, 0, none⟩ = some (.int .i64 ((rd_T137 l1 x20_1).f0)) := (blk_cell BK105.out 0).trans rfl
                      have hcz18_1 : w17.cell? ⟨gb105, 1, none⟩ = some (.int .i64 ((rd_T137 l1 x20_1).f1)) := (blk_cell BK105.out 1).trans rfl
                      have hcz18_2 : w17.cell? ⟨gb105, 2, none⟩ = some (.string ((rd_T137 l1 x20_1).f2)) := (blk_cell BK105.out 2).trans rfl
                      have hfz18_0 := blk_frozen BK105.out 0
                      have hfz18_1 := blk_frozen BK105.out 1
                      have hfz18_2 := blk_frozen BK105.out 2
                      try go_wp2
                      go_roundg k1
                      case measure => have := HK1.out; omega
                      case rel => exact ⟨(y106), (wrap64 (x8_1 + (wrap64 ((((rd_T137 l1 x20_1).f2).size : Int) - (wrap64 (((rd_T137 l1 x20_1).f1) - ((rd_T137 l1 x20_1).f0))))))), (wrap64 (x20_1 + 1)), (by first | rfl | (simp; done) | (simp [*]; done) | (simp [isEmpty_bne]; done)), (by first | rfl | (simp; done) | (simp [*]; done) | (simp [isEmpty_bne]; done)), H', ⟨by have := HK1.out; omega⟩, ⟨by (with_reducible repeat (first | apply Kd.R_alloc | apply Kd.R_drewN | apply Kd.R_drew)); exact Kd.R_mono HO108.out (fun _ hk => trivial)⟩, ⟨by repeat (first | (with_reducible first | exact HB.out | apply below_alloc | apply pw_below_drewN | apply below_drew1 | refine below_set ?_ GE105.out) | exact HB.out)⟩⟩
                    · rw [if_neg c12] at H
                      exact absurd H (by simp)
                  · rw [if_neg c11] at H
                    exact absurd H (by simp)
                · rw [if_neg c10] at H
                  exact absurd H (by simp)
              · rw [if_neg c9] at H
                exact absurd H (by simp)
            · rw [if_neg c8] at H
              exact absurd H (by simp)
          · rw [if_neg c7] at H
            exact absurd H (by simp)
        · rw [if_neg c6] at H
          have c6b0 : decide (x20_1 < (l1.length : Int)) = false := decide_eq_false c6
          clear c6
          simp only [Option.some.injEq, Prod.mk.injEq] at H
          obtain ⟨rfl, rfl⟩ := H
          go_wp2
          go_ret2
          exact ⟨_, by first | rfl | (simp [errW_none, errW_some] <;> rfl) | (simp [*, errW_none, errW_some] <;> rfl), by (with_reducible repeat (first | apply Kd.R_alloc | apply Kd.R_drewN | apply Kd.R_drew)); exact HO_7.out, by repeat (first | (with_reducible first | exact HB.out | apply below_alloc | apply pw_below_drewN | apply below_drew1) | exact HB.out)⟩
  · rw [if_neg c4] at H
    have c4b0 : (t103 == 0) = false := beq_eq_false_iff_ne.mpr c4
    have c4b1 : (t103 != 0) = true := bne_iff_ne.mpr c4
    simp only [Option.some.injEq, Prod.mk.injEq] at H
    obtain ⟨rfl, rfl⟩ := H
    go_enter Try.func64, Try.ntmps64
    go_wp2_with (first | ((with_reducible refine gate_callee (f := 68) rfl ?_); refine goesL_ (some 14) rfl rfl Try.func68 (by kernel_rfl) rfl #[.string a0, .slice A1 l1.length c1] rfl (by (try simp only [List.map_toArray, List.map_cons, List.map_nil]); first | done | rfl | (simp only [List.length_drop, List.length_take]; rfl)) ?_; (with_reducible refine (textedit_Validate.calls k a0 _ _ l1 t103 _ ?side1 ?side2 A3.out).mono ?_); (case side1 => repeat (first | exact HR1.out | (with_reducible refine Kd.C_alloc ?_ _) | (with_reducible refine Kd.C_drewN ?_ _) | (with_reducible refine Kd.C_drew ?_))); (case side2 => exact HC1.out); rintro e w19 ⟨rfl, hb⟩; refine ⟨_, rfl, ?_⟩; have n0_ := Aside0.mk (below_step (by repeat (first | (with_reducible first | exact HB.out | apply below_alloc | apply pw_below_drewN | apply below_drew1) | exact HB.out)) hb); clear HB; have HB := n0_; clear n0_; (try clear hb); (try clear hb2); (try clear hk); (try clear hi)))
    go_ret2
    exact ⟨_, by first | rfl | (simp [errW_none, errW_some] <;> rfl) | (simp [*, errW_none, errW_some] <;> rfl), by first | exact Kd.R_nil _ _ _ _ _ | exact Kd.N_nil _ _ _ _ _ | exact Kd.V_nil _ _ _ _ _ | exact Kd.Q_nil _ _ _ _ _ | exact Kd.S_nil _ _ _ _ _, by repeat (first | (with_reducible first | exact HB.out | apply below_alloc | apply pw_below_drewN | apply below_drew1) | exact HB.out)⟩

end Go.Proofs.Ytbfedkmiekbcmaa.QTexteditTransformEqualsReference
