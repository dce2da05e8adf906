-- Written by gen.py (this repo's wip/), which runs the kit's print.py with more arms. Lean checks it.
import Derived.Test.YtglckkkjfcomlaaQQuerylangCompilex0
import Derived.Test.YtglckkkjfcomlaaQQuerylangCompilex2
namespace Go.Proofs.Ytglckkkjfcomlaa.QQuerylangCompile
open Go.RowKit Go.Proofs.YtglckkkjfcomlaaW.PrintWords Go.Proofs.YtglckkkjfcomlaaW.PrintLast Go.Proofs.YtglckkkjfcomlaaW.PrintMore
attribute [local go_sem] max2_int min2_int max_two min_two max_three min_three max_four min_four   -- for this text's walks alone
set_option linter.unusedVariables false
set_option linter.unusedSimpArgs false

private theorem isEmpty_bne {α : Type} [BEq α] (l : List α) : (l != []) = !l.isEmpty := by cases l <;> rfl

/-! ### querylang_checkQuery: function 164 -/
mutual
def querylang_checkQuery.l0 : Nat → Int → Int → List (S160) → Int → Int → Int → List (List (S160)) → Option (Int)
  | 0, _, _, _, _, _, _, _ => none
  | k + 1, x1, x5, x14, x15, x16, x111000, x111001 => if x16 < x15 then (if 0 ≤ x16 then (if x16 < (x14.length : Int) then (if ((rd_T160 x14 x16).f0) < 1 then (querylang_checkQuery.j1 k x1 x5 x14 x15 x16 true x111000 x111001 ((rd_T160 x14 x16).f0) ((rd_T160 x14 x16).f1) ((rd_T160 x14 x16).f2)) else (querylang_checkQuery.j1 k x1 x5 x14 x15 x16 (decide (((rd_T160 x14 x16).f0) ≥ 12)) x111000 x111001 ((rd_T160 x14 x16).f0) ((rd_T160 x14 x16).f1) ((rd_T160 x14 x16).f2))) else (none)) else (none)) else (if x5 = 1 then (some 0) else (some 3))
def querylang_checkQuery.j1 : Nat → Int → Int → List (S160) → Int → Int → Bool → Int → List (List (S160)) → Int → Int → Int → Option (Int)
  | 0, _, _, _, _, _, _, _, _, _, _, _ => none
  | k + 1, x1, x5, x14, x15, x16, x27, x111000, x111001, x114000, x114001, x114002 => if x27 = true then (some 7) else ((querylang_operands.f x111000 x111001 x1 x114000 x114001 x114002).bind fun bt114 => (if bt114.2 = true then (if x5 < bt114.1 then (some 3) else (querylang_checkQuery.l0 k x1 (wrap64 (x5 + (wrap64 (1 - bt114.1)))) x14 x15 (wrap64 (x16 + 1)) x111000 x111001)) else (some 3)))
end
def querylang_checkQuery.f (k : Nat) (a0_0 : Int) (l0_1 : List (List (S160))) (a1 : Int) : Option (Int) := if 0 ≤ a1 then (if a1 < (l0_1.length : Int) then (querylang_checkQuery.l0 k a1 0 (rd_L2 l0_1 a1) ((rd_L2 l0_1 a1).length : Int) 0 a0_0 l0_1) else (none)) else (none)
theorem querylang_checkQuery.mono_l : ∀ k, (∀ y0 y1 y2 y3 y4 y5 y6, LeO (querylang_checkQuery.l0 k y0 y1 y2 y3 y4 y5 y6) (querylang_checkQuery.l0 (k + 1) y0 y1 y2 y3 y4 y5 y6)) ∧ (∀ y0 y1 y2 y3 y4 y5 y6 y7 y8 y9 y10, LeO (querylang_checkQuery.j1 k y0 y1 y2 y3 y4 y5 y6 y7 y8 y9 y10) (querylang_checkQuery.j1 (k + 1) y0 y1 y2 y3 y4 y5 y6 y7 y8 y9 y10))
  | 0 => ⟨fun _ _ _ _ _ _ _ r h => by simp [querylang_checkQuery.l0] at h, fun _ _ _ _ _ _ _ _ _ _ _ r h => by simp [querylang_checkQuery.j1] at h⟩
  | k + 1 => by
    obtain ⟨ih0, ih1⟩ := querylang_checkQuery.mono_l k
    refine ⟨?_, ?_⟩
    · intro y0 y1 y2 y3 y4 y5 y6
      unfold querylang_checkQuery.l0
      repeat' first
      | (with_reducible exact ih0 _ _ _ _ _ _ _)
      | (with_reducible exact ih1 _ _ _ _ _ _ _ _ _ _ _)
      | (with_reducible exact LeO.refl _)
      | (with_reducible exact LeO.none _)
      | (with_reducible refine LeO.ite ?_ ?_)
      | (with_reducible refine LeO.bind ?_ (fun _ => ?_))
      | exact ih0 _ _ _ _ _ _ _
      | exact ih1 _ _ _ _ _ _ _ _ _ _ _
      | exact LeO.none _
      | refine LeO.ite ?_ ?_
      | refine LeO.bind ?_ (fun _ => ?_)
    · intro y0 y1 y2 y3 y4 y5 y6 y7 y8 y9 y10
      unfold querylang_checkQuery.j1
      repeat' first
      | (with_reducible exact ih0 _ _ _ _ _ _ _)
      | (with_reducible exact ih1 _ _ _ _ _ _ _ _ _ _ _)
      | (with_reducible exact LeO.refl _)
      | (with_reducible exact LeO.none _)
      | (with_reducible refine LeO.ite ?_ ?_)
      | (with_reducible refine LeO.bind ?_ (fun _ => ?_))
      | exact ih0 _ _ _ _ _ _ _
      | exact ih1 _ _ _ _ _ _ _ _ _ _ _
      | exact LeO.none _
      | refine LeO.ite ?_ ?_
      | refine LeO.bind ?_ (fun _ => ?_)
theorem querylang_checkQuery.mono : ∀ a0 a1 a2 k, LeO (querylang_checkQuery.f k a0 a1 a2) (querylang_checkQuery.f (k + 1) a0 a1 a2) := by
  intro a0 a1 a2 k
  obtain ⟨ih0, ih1⟩ := querylang_checkQuery.mono_l k
  unfold querylang_checkQuery.f
  repeat' first
      | (with_reducible exact ih0 _ _ _ _ _ _ _)
      | (with_reducible exact ih1 _ _ _ _ _ _ _ _ _ _ _)
      | (with_reducible exact LeO.refl _)
      | (with_reducible exact LeO.none _)
      | (with_reducible refine LeO.ite ?_ ?_)
      | (with_reducible refine LeO.bind ?_ (fun _ => ?_))
      | exact ih0 _ _ _ _ _ _ _
      | exact ih1 _ _ _ _ _ _ _ _ _ _ _
      | exact LeO.none _
      | refine LeO.ite ?_ ?_
      | refine LeO.bind ?_ (fun _ => ?_)
set_option maxHeartbeats 8000000 in
set_option maxRecDepth 100000 in
theorem querylang_checkQuery.calls (k : Nat) (a0_0 : Int) (A0_1 : Option Addr) (c0_1 : Nat) (l0_1 : List (List (S160))) (a1 : Int) (r : Int) (w : World) (hr0_1 : Kd.C (Kd.slice 160 k160) w A0_1 l0_1.length l0_1) (hc0_1 : l0_1.length ≤ c0_1) (h : querylang_checkQuery.f k a0_0 l0_1 a1 = some r) :
    Calls Try.prog 164 #[.agg #[.int .i64 a0_0, .slice A0_1 l0_1.length c0_1], .int .i64 a1] w fun e w' => e = .returned (.int .i64 r) ∧ Below w.heap.size w w' := by
  have hu24 := Try.underlying24
  have hu160 := Try.underlying160
  have HR0_1 := Aside0.mk hr0_1
  have HC0_1 := Aside0.mk hc0_1
  clear hr0_1 hc0_1
  have HB := Aside0.mk (Below.refl w.heap.size w)
  have H : (if 0 ≤ a1 then (if a1 < (l0_1.length : Int) then (querylang_checkQuery.l0 k a1 0 (rd_L2 l0_1 a1) ((rd_L2 l0_1 a1).length : Int) 0 a0_0 l0_1) else (none)) else (none)) = some r := h
  clear h
  by_cases c3 : 0 ≤ a1
  · rw [if_pos c3] at H
    have c3b0 : decide (0 ≤ a1) = true := decide_eq_true c3
    clear c3
    by_cases c4 : a1 < (l0_1.length : Int)
    · rw [if_pos c4] at H
      have c4b0 : decide (a1 < (l0_1.length : Int)) = true := decide_eq_true c4
      clear c4
      have H' := Aside0.mk H
      clear H
      go_enter Try.func164, Try.ntmps164
      go_wp2_with (first | ((with_reducible refine gate_dst (N := 2) rfl ?_); refine box_event ?hg (N := 2) ?hd (cs := #[.int .i64 a0_0, .slice A0_1 l0_1.length c0_1]) (t := 24) ?hr ?_; (case hd => rfl); (case hg => rfl); (case hr => first | (go_simp; done) | (go_simp; rfl)); intro gb110 hg w5 hbox hb; have n0_ := Aside0.mk (below_step (by repeat (first | (with_reducible first | exact HB.out | apply below_alloc | apply pw_below_drewN | apply below_drew1) | exact HB.out)) hb); have n1_ := Aside0.mk (hbox); have n2_ := Aside0.mk ((by rw [hg]; exact (below_size (by repeat (first | (with_reducible first | exact HB.out | apply below_alloc | apply pw_below_drewN | apply below_drew1) | exact HB.out))) : w.heap.size ≤ gb110)); have n3_ := Aside0.mk ((by rw [hg]; exact (below_size (by repeat (first | (with_reducible first | exact HB.out | apply below_alloc | apply pw_below_drewN | apply below_drew1) | exact HB.out))) : w.heap.size ≤ gb110)); clear HB; have HB := n0_; have BK110 := n1_; have GW110 := n2_; have GE110 := n3_; clear n0_ n1_ n2_ n3_; clear hb hbox hg; have hcz6_0 : w5.cell? ⟨gb110, 0, none⟩ = some (.int .i64 a0_0) := (blk_cell BK110.out 0).trans rfl; have hcz6_1 : w5.cell? ⟨gb110, 1, none⟩ = some (.slice A0_1 l0_1.length c0_1) := (blk_cell BK110.out 1).trans rfl; have hfz6_0 := blk_frozen BK110.out 0; have hfz6_1 := blk_frozen BK110.out 1; have p111 : 0 ≤ (a1 : Int) := of_decide_eq_true (by first | (with_reducible assumption) | assumption); have q111 : a1 < (l0_1.length : Int) := of_decide_eq_true (by first | (with_reducible assumption) | assumption); obtain ⟨ad111, A111_0, c111_0, e111, hx111_0, hl111_0, hi111_0⟩ := at_L2 HR0_1.out a1 p111 q111; cases e111; replace hx111_0 := (HB.out.cell (World.block_lt_of_cell? w _ hx111_0)).trans hx111_0; have HR111_0 := Aside0.mk hi111_0; have HC111_0 := Aside0.mk hl111_0; clear hi111_0 hl111_0; replace p111 := eq_true p111; replace q111 := eq_true q111))
      go_loopg [5, 16] k (fun kq v5 v16 w' => ∃ (x5_1 : Int) (x16_1 : Int), v5 = .int .i64 x5_1 ∧ v16 = .int .i64 x16_1 ∧ Aside0 (querylang_checkQuery.l0 kq a1 x5_1 (rd_L2 l0_1 a1) ((rd_L2 l0_1 a1).length : Int) x16_1 a0_0 l0_1 = some r) ∧ Aside0 (kq ≤ k) ∧ Aside0 (w'.heap[gb110]? = some (.cells #[.int .i64 a0_0, (.slice (some ad111) l0_1.length c0_1)] 24 (0, 0))) ∧ Aside0 (Below w.heap.size w w'))
      case atStart => exact ⟨(0), (0), (by first | rfl | (simp; done) | (simp [*]; done) | (simp [isEmpty_bne]; done)), (by first | rfl | (simp; done) | (simp [*]; done) | (simp [isEmpty_bne]; done)), H', ⟨Nat.le_refl _⟩, ⟨by (with_reducible repeat (first | refine blk_drewN ?_ _ | refine blk_drew ?_ | refine blk_alloc ?_ _)); exact BK110.out⟩, ⟨by repeat (first | (with_reducible first | exact HB.out | apply below_alloc | apply pw_below_drewN | apply below_drew1 | refine below_set ?_ GE110.out) | exact HB.out)⟩⟩
      case round =>
        clear H'
        try clear c1
        try clear p1
        try clear q1
        try clear hx1
        try clear p2
        try clear c3
        try clear c3b0
        try clear c4
        try clear c4b0
        try clear hcz6_0
        try clear hcz6_1
        try clear hfz6_0
        try clear hfz6_1
        try clear hx111_0
        try clear p111
        try clear q111
        obtain ⟨x5_1, x16_1, rfl, rfl, HA, HK1, BK110, HB⟩ := hrel
        cases gk with
        | zero => exact absurd HA.out (by simp [querylang_checkQuery.l0])
        | succ k1 =>
          have H := HA.out
          clear HA
          simp only [querylang_checkQuery.l0] at H
          by_cases c7 : x16_1 < ((rd_L2 l0_1 a1).length : Int)
          · rw [if_pos c7] at H
            have c7b0 : decide (x16_1 < ((rd_L2 l0_1 a1).length : Int)) = true := decide_eq_true c7
            clear c7
            by_cases c8 : 0 ≤ x16_1
            · rw [if_pos c8] at H
              have c8b0 : decide (0 ≤ x16_1) = true := decide_eq_true c8
              clear c8
              by_cases c9 : x16_1 < ((rd_L2 l0_1 a1).length : Int)
              · rw [if_pos c9] at H
                have c9b0 : decide (x16_1 < ((rd_L2 l0_1 a1).length : Int)) = true := decide_eq_true c9
                clear c9
                have HC10 := Aside0.mk H
                clear H
                have p112 : 0 ≤ (x16_1 : Int) := of_decide_eq_true (by first | (with_reducible assumption) | assumption)
                have q112 : x16_1 < ((rd_L2 l0_1 a1).length : Int) := of_decide_eq_true (by first | (with_reducible assumption) | assumption)
                obtain ⟨ad112, e112, hx112_0, hx112_1, hx112_2⟩ := at_T160 HR111_0.out x16_1 p112 q112
                cases e112
                replace hx112_0 := (HB.out.cell (World.block_lt_of_cell? w _ hx112_0)).trans hx112_0
                replace hx112_1 := (HB.out.cell (World.block_lt_of_cell? w _ hx112_1)).trans hx112_1
                replace hx112_2 := (HB.out.cell (World.block_lt_of_cell? w _ hx112_2)).trans hx112_2
                replace p112 := eq_true p112
                replace q112 := eq_true q112
                go_upto_region 5 with (first | ((with_reducible refine gate_dst (N := 7) rfl ?_); refine box_event ?hg (N := 7) ?hd (cs := #[.int .i64 0, .int .i64 0, .int .i64 0]) (t := 160) ?hr ?_; (case hd => rfl); (case hg => rfl); (case hr => first | (go_simp; done) | (go_simp; rfl)); intro gb113 hg w11 hbox hb; have n0_ := Aside0.mk (blk_below (g := gb110) (o := .cells #[.int .i64 a0_0, .slice (some ad111) l0_1.length c0_1] 24 (0, 0)) (by (with_reducible repeat (first | refine blk_drewN ?_ _ | refine blk_drew ?_ | refine blk_alloc ?_ _)); exact BK110.out) hb); have n1_ := Aside0.mk (below_step (by repeat (first | (with_reducible first | exact HB.out | apply below_alloc | apply pw_below_drewN | apply below_drew1 | refine below_set ?_ GE110.out) | exact HB.out)) hb); have n2_ := Aside0.mk (hbox); have n3_ := Aside0.mk ((by rw [hg]; exact (below_size (by repeat (first | (with_reducible first | exact HB.out | apply below_alloc | apply pw_below_drewN | apply below_drew1 | refine below_set ?_ GE110.out) | exact HB.out))) : w.heap.size ≤ gb113)); have n4_ := Aside0.mk ((by rw [hg]; exact (below_size (by repeat (first | (with_reducible first | exact HB.out | apply below_alloc | apply pw_below_drewN | apply below_drew1 | refine below_set ?_ GE110.out) | exact HB.out))) : w.heap.size ≤ gb113)); have n5_ := Aside0.mk ((by rw [hg]; exact Nat.ne_of_lt (blk_lt (g := gb110) (o := .cells #[.int .i64 a0_0, .slice (some ad111) l0_1.length c0_1] 24 (0, 0)) (by (with_reducible repeat (first | refine blk_drewN ?_ _ | refine blk_drew ?_ | refine blk_alloc ?_ _)); exact BK110.out)) : gb110 ≠ gb113)); have n6_ := Aside0.mk ((by rw [hg]; exact Nat.ne_of_gt (blk_lt (g := gb110) (o := .cells #[.int .i64 a0_0, .slice (some ad111) l0_1.length c0_1] 24 (0, 0)) (by (with_reducible repeat (first | refine blk_drewN ?_ _ | refine blk_drew ?_ | refine blk_alloc ?_ _)); exact BK110.out)) : gb113 ≠ gb110)); clear BK110; clear HB; have BK110 := n0_; have HB := n1_; have BK113 := n2_; have GW113 := n3_; have GE113 := n4_; have NB110_113 := n5_; have NB113_110 := n6_; clear n0_ n1_ n2_ n3_ n4_ n5_ n6_; clear hb hbox hg; have hnb12 := NB113_110.out; have hnc12 := NB110_113.out; have hcz13_0 : w11.cell? ⟨gb113, 0, none⟩ = some (.int .i64 0) := (blk_cell BK113.out 0).trans rfl; have hcz13_1 : w11.cell? ⟨gb113, 1, none⟩ = some (.int .i64 0) := (blk_cell BK113.out 1).trans rfl; have hcz13_2 : w11.cell? ⟨gb113, 2, none⟩ = some (.int .i64 0) := (blk_cell BK113.out 2).trans rfl; have hfz13_0 := blk_frozen BK113.out 0; have hfz13_1 := blk_frozen BK113.out 1; have hfz13_2 := blk_frozen BK113.out 2))
                (try simp only [Act.put, List.setIfInBounds_toArray, List.set_cons_zero, List.set_cons_succ])
                go_cut [27] (fun v27 wc => ∃ (kq : Nat) (x27_9 : Bool), v27 = .bool x27_9 ∧ Aside0 (querylang_checkQuery.j1 kq a1 x5_1 (rd_L2 l0_1 a1) ((rd_L2 l0_1 a1).length : Int) x16_1 x27_9 a0_0 l0_1 ((rd_T160 (rd_L2 l0_1 a1) x16_1).f0) ((rd_T160 (rd_L2 l0_1 a1) x16_1).f1) ((rd_T160 (rd_L2 l0_1 a1) x16_1).f2) = some r) ∧ Aside0 (kq ≤ k1) ∧ Aside0 (wc.heap[gb110]? = some (.cells #[.int .i64 a0_0, (.slice (some ad111) l0_1.length c0_1)] 24 (0, 0))) ∧ Aside0 (wc.heap[gb113]? = some (.cells #[.int .i64 ((rd_T160 (rd_L2 l0_1 a1) x16_1).f0), .int .i64 ((rd_T160 (rd_L2 l0_1 a1) x16_1).f1), .int .i64 ((rd_T160 (rd_L2 l0_1 a1) x16_1).f2)] 160 (0, 0))) ∧ Aside0 (Below w.heap.size w wc))
                case first =>
                  have H := HC10.out
                  clear HC10
                  by_cases c14 : ((rd_T160 (rd_L2 l0_1 a1) x16_1).f0) < 1
                  · rw [if_pos c14] at H
                    have c14b0 : decide (((rd_T160 (rd_L2 l0_1 a1) x16_1).f0) < 1) = true := decide_eq_true c14
                    clear c14
                    (first | rw [c14b0] | (simp only [i64_w, i32_w]; rw [c14b0]) | skip)
                    have H' := Aside0.mk H
                    clear H
                    have hnb15 := NB113_110.out
                    have hnc15 := NB110_113.out
                    have hcz16_0 : w11.cell? ⟨gb113, 0, none⟩ = some (.int .i64 0) := (blk_cell BK113.out 0).trans rfl
                    have hcz16_1 : w11.cell? ⟨gb113, 1, none⟩ = some (.int .i64 0) := (blk_cell BK113.out 1).trans rfl
                    have hcz16_2 : w11.cell? ⟨gb113, 2, none⟩ = some (.int .i64 0) := (blk_cell BK113.out 2).trans rfl
                    have hfz16_0 := blk_frozen BK113.out 0
                    have hfz16_1 := blk_frozen BK113.out 1
                    have hfz16_2 := blk_frozen BK113.out 2
                    go_wp2
                    go_meet
                    case rel => exact ⟨_, (true), (by first | rfl | (simp; done) | (simp [*]; done) | (simp [isEmpty_bne]; done)), H', ⟨by have := HK1.out; first | omega | exact Nat.le_refl _⟩, ⟨by (with_reducible repeat (first | refine blk_drewN ?_ _ | refine blk_drew ?_ | refine blk_alloc ?_ _)); refine blk_far ?_ NB110_113.out _; (with_reducible repeat (first | refine blk_drewN ?_ _ | refine blk_drew ?_ | refine blk_alloc ?_ _)); refine blk_far ?_ NB110_113.out _; (with_reducible repeat (first | refine blk_drewN ?_ _ | refine blk_drew ?_ | refine blk_alloc ?_ _)); refine blk_far ?_ NB110_113.out _; (with_reducible repeat (first | refine blk_drewN ?_ _ | refine blk_drew ?_ | refine blk_alloc ?_ _)); exact BK110.out⟩, ⟨by (with_reducible repeat (first | refine blk_drewN ?_ _ | refine blk_drew ?_ | refine blk_alloc ?_ _)); refine blk_put (cs := #[.int .i64 ((rd_T160 (rd_L2 l0_1 a1) x16_1).f0), .int .i64 ((rd_T160 (rd_L2 l0_1 a1) x16_1).f1), .int .i64 0]) ?_ 2 _ rfl; (with_reducible repeat (first | refine blk_drewN ?_ _ | refine blk_drew ?_ | refine blk_alloc ?_ _)); refine blk_put (cs := #[.int .i64 ((rd_T160 (rd_L2 l0_1 a1) x16_1).f0), .int .i64 0, .int .i64 0]) ?_ 1 _ rfl; (with_reducible repeat (first | refine blk_drewN ?_ _ | refine blk_drew ?_ | refine blk_alloc ?_ _)); refine blk_put (cs := #[.int .i64 0, .int .i64 0, .int .i64 0]) ?_ 0 _ rfl; (with_reducible repeat (first | refine blk_drewN ?_ _ | refine blk_drew ?_ | refine blk_alloc ?_ _)); exact BK113.out⟩, ⟨by repeat (first | (with_reducible first | exact HB.out | apply below_alloc | apply pw_below_drewN | apply below_drew1 | refine below_set ?_ GE110.out | refine below_set ?_ GE113.out) | exact HB.out)⟩⟩
                  · rw [if_neg c14] at H
                    have c14b0 : decide (((rd_T160 (rd_L2 l0_1 a1) x16_1).f0) < 1) = false := decide_eq_false c14
                    clear c14
                    (first | rw [c14b0] | (simp only [i64_w, i32_w]; rw [c14b0]) | skip)
                    have H' := Aside0.mk H
                    clear H
                    have hnb17 := NB113_110.out
                    have hnc17 := NB110_113.out
                    have hcz18_0 : w11.cell? ⟨gb113, 0, none⟩ = some (.int .i64 0) := (blk_cell BK113.out 0).trans rfl
                    have hcz18_1 : w11.cell? ⟨gb113, 1, none⟩ = some (.int .i64 0) := (blk_cell BK113.out 1).trans rfl
                    have hcz18_2 : w11.cell? ⟨gb113, 2, none⟩ = some (.int .i64 0) := (blk_cell BK113.out 2).trans rfl
                    have hfz18_0 := blk_frozen BK113.out 0
                    have hfz18_1 := blk_frozen BK113.out 1
                    have hfz18_2 := blk_frozen BK113.out 2
                    go_wp2
                    go_meet
                    case rel => exact ⟨_, (decide (((rd_T160 (rd_L2 l0_1 a1) x16_1).f0) ≥ 12)), (by first | rfl | (simp; done) | (simp [*]; done) | (simp [isEmpty_bne]; done)), H', ⟨by have := HK1.out; first | omega | exact Nat.le_refl _⟩, ⟨by (with_reducible repeat (first | refine blk_drewN ?_ _ | refine blk_drew ?_ | refine blk_alloc ?_ _)); refine blk_far ?_ NB110_113.out _; (with_reducible repeat (first | refine blk_drewN ?_ _ | refine blk_drew ?_ | refine blk_alloc ?_ _)); refine blk_far ?_ NB110_113.out _; (with_reducible repeat (first | refine blk_drewN ?_ _ | refine blk_drew ?_ | refine blk_alloc ?_ _)); refine blk_far ?_ NB110_113.out _; (with_reducible repeat (first | refine blk_drewN ?_ _ | refine blk_drew ?_ | refine blk_alloc ?_ _)); exact BK110.out⟩, ⟨by (with_reducible repeat (first | refine blk_drewN ?_ _ | refine blk_drew ?_ | refine blk_alloc ?_ _)); refine blk_put (cs := #[.int .i64 ((rd_T160 (rd_L2 l0_1 a1) x16_1).f0), .int .i64 ((rd_T160 (rd_L2 l0_1 a1) x16_1).f1), .int .i64 0]) ?_ 2 _ rfl; (with_reducible repeat (first | refine blk_drewN ?_ _ | refine blk_drew ?_ | refine blk_alloc ?_ _)); refine blk_put (cs := #[.int .i64 ((rd_T160 (rd_L2 l0_1 a1) x16_1).f0), .int .i64 0, .int .i64 0]) ?_ 1 _ rfl; (with_reducible repeat (first | refine blk_drewN ?_ _ | refine blk_drew ?_ | refine blk_alloc ?_ _)); refine blk_put (cs := #[.int .i64 0, .int .i64 0, .int .i64 0]) ?_ 0 _ rfl; (with_reducible repeat (first | refine blk_drewN ?_ _ | refine blk_drew ?_ | refine blk_alloc ?_ _)); exact BK113.out⟩, ⟨by repeat (first | (with_reducible first | exact HB.out | apply below_alloc | apply pw_below_drewN | apply below_drew1 | refine below_set ?_ GE110.out | refine below_set ?_ GE113.out) | exact HB.out)⟩⟩
                case rest =>
                  clear HC10
                  try clear c1
                  try clear p1
                  try clear q1
                  try clear hx1
                  try clear p2
                  try clear c3
                  try clear c3b0
                  try clear c4
                  try clear c4b0
                  try clear c7
                  try clear c7b0
                  try clear c8
                  try clear c8b0
                  try clear c9
                  try clear c9b0
                  try clear c11
                  try clear p11
                  try clear q11
                  try clear hx11
                  try clear c12
                  try clear c14
                  try clear c14b0
                  try clear c15
                  try clear c16
                  try clear c17
                  try clear hcz13_0
                  try clear hcz13_1
                  try clear hcz13_2
                  try clear hcz16_0
                  try clear hcz16_1
                  try clear hcz16_2
                  try clear hcz18_0
                  try clear hcz18_1
                  try clear hcz18_2
                  try clear hcz6_0
                  try clear hcz6_1
                  try clear hfz13_0
                  try clear hfz13_1
                  try clear hfz13_2
                  try clear hfz16_0
                  try clear hfz16_1
                  try clear hfz16_2
                  try clear hfz18_0
                  try clear hfz18_1
                  try clear hfz18_2
                  try clear hfz6_0
                  try clear hfz6_1
                  try clear hx111_0
                  try clear hx112_0
                  try clear hx112_1
                  try clear hx112_2
                  try clear p1
                  try clear p111
                  try clear p112
                  try clear p2
                  try clear q1
                  try clear q111
                  try clear q112
                  obtain ⟨kq, x27_9, rfl, HA, HJ9, BK110, BK113, HB⟩ := hcut
                  cases kq with
                  | zero => exact absurd HA.out (by simp [querylang_checkQuery.j1])
                  | succ kj9 =>
                    have H := HA.out
                    clear HA
                    simp only [querylang_checkQuery.j1] at H
                    by_cases c19 : x27_9 = true
                    · subst c19
                      have H1 : (some 7) = some r := by rw [if_pos rfl] at H; exact H
                      clear H
                      have H := H1
                      clear H1
                      obtain rfl := Option.some.inj H
                      go_wp2
                      go_ret
                      exact ⟨by first | rfl | (simp [errW_none, errW_some] <;> rfl) | (simp [*, errW_none, errW_some] <;> rfl), by repeat (first | (with_reducible first | exact HB.out | apply below_alloc | apply pw_below_drewN | apply below_drew1 | refine below_set ?_ GE110.out | refine below_set ?_ GE113.out) | exact HB.out)⟩
                    · replace c19 := Bool.eq_false_iff.mpr c19
                      subst c19
                      have H1 : ((querylang_operands.f a0_0 l0_1 a1 ((rd_T160 (rd_L2 l0_1 a1) x16_1).f0) ((rd_T160 (rd_L2 l0_1 a1) x16_1).f1) ((rd_T160 (rd_L2 l0_1 a1) x16_1).f2)).bind fun bt114 => (if bt114.2 = true then (if x5_1 < bt114.1 then (some 3) else (querylang_checkQuery.l0 kj9 a1 (wrap64 (x5_1 + (wrap64 (1 - bt114.1)))) (rd_L2 l0_1 a1) ((rd_L2 l0_1 a1).length : Int) (wrap64 (x16_1 + 1)) a0_0 l0_1)) else (some 3))) = some r := by rw [if_neg (show ¬ (false = true) by decide)] at H; exact H
                      clear H
                      have H := H1
                      clear H1
                      replace H := Option.bind_eq_some_iff.mp H
                      obtain ⟨⟨t114, t115⟩, A200, H⟩ := H
                      replace H : (if t115 = true then (if x5_1 < t114 then (some 3) else (querylang_checkQuery.l0 kj9 a1 (wrap64 (x5_1 + (wrap64 (1 - t114)))) (rd_L2 l0_1 a1) ((rd_L2 l0_1 a1).length : Int) (wrap64 (x16_1 + 1)) a0_0 l0_1)) else (some 3)) = some r := H
                      have A20 := Aside0.mk A200
                      clear A200
                      by_cases c21 : t115 = true
                      · subst c21
                        have H1 : (if x5_1 < t114 then (some 3) else (querylang_checkQuery.l0 kj9 a1 (wrap64 (x5_1 + (wrap64 (1 - t114)))) (rd_L2 l0_1 a1) ((rd_L2 l0_1 a1).length : Int) (wrap64 (x16_1 + 1)) a0_0 l0_1)) = some r := by rw [if_pos rfl] at H; exact H
                        clear H
                        have H := H1
                        clear H1
                        by_cases c22 : x5_1 < t114
                        · rw [if_pos c22] at H
                          have c22b0 : decide (x5_1 < t114) = true := decide_eq_true c22
                          clear c22
                          obtain rfl := Option.some.inj H
                          have hnb23 := NB110_113.out
                          have hnc23 := NB113_110.out
                          have hcz24_0 : wc.cell? ⟨gb110, 0, none⟩ = some (.int .i64 a0_0) := (blk_cell BK110.out 0).trans rfl
                          have hcz24_1 : wc.cell? ⟨gb110, 1, none⟩ = some (.slice (some ad111) l0_1.length c0_1) := (blk_cell BK110.out 1).trans rfl
                          have hfz24_0 := blk_frozen BK110.out 0
                          have hfz24_1 := blk_frozen BK110.out 1
                          have hcz25_0 : wc.cell? ⟨gb113, 0, none⟩ = some (.int .i64 ((rd_T160 (rd_L2 l0_1 a1) x16_1).f0)) := (blk_cell BK113.out 0).trans rfl
                          have hcz25_1 : wc.cell? ⟨gb113, 1, none⟩ = some (.int .i64 ((rd_T160 (rd_L2 l0_1 a1) x16_1).f1)) := (blk_cell BK113.out 1).trans rfl
                          have hcz25_2 : wc.cell? ⟨gb113, 2, none⟩ = some (.int .i64 ((rd_T160 (rd_L2 l0_1 a1) x16_1).f2)) := (blk_cell BK113.out 2).trans rfl
                          have hfz25_0 := blk_frozen BK113.out 0
                          have hfz25_1 := blk_frozen BK113.out 1
                          have hfz25_2 := blk_frozen BK113.out 2
                          go_wp2_with (first | ((with_reducible refine gate_callee (f := 216) rfl ?_); refine goesL_ (some 32) rfl rfl Try.func216 (by kernel_rfl) rfl #[.agg #[.int .i64 a0_0, .slice (some ad111) l0_1.length c0_1], .int .i64 a1, .agg #[.int .i64 ((rd_T160 (rd_L2 l0_1 a1) x16_1).f0), .int .i64 ((rd_T160 (rd_L2 l0_1 a1) x16_1).f1), .int .i64 ((rd_T160 (rd_L2 l0_1 a1) x16_1).f2)]] rfl (by (try simp only [List.map_toArray, List.map_cons, List.map_nil]); first | done | rfl | (simp only [List.length_drop, List.length_take]; rfl)) ?_; (with_reducible refine (querylang_operands.calls a0_0 _ _ l0_1 a1 ((rd_T160 (rd_L2 l0_1 a1) x16_1).f0) ((rd_T160 (rd_L2 l0_1 a1) x16_1).f1) ((rd_T160 (rd_L2 l0_1 a1) x16_1).f2) t114 true _ ?side1 ?side2 A20.out).mono ?_); (case side1 => repeat (first | exact (Kd.C_below HR0_1.out HB.out) | (with_reducible refine Kd.C_alloc ?_ _) | (with_reducible refine Kd.C_drewN ?_ _) | (with_reducible refine Kd.C_drew ?_))); (case side2 => exact HC0_1.out); rintro e w26 ⟨rfl, hb⟩; refine ⟨_, rfl, ?_⟩; have n0_ := Aside0.mk (blk_below (g := gb110) (o := .cells #[.int .i64 a0_0, .slice (some ad111) l0_1.length c0_1] 24 (0, 0)) (by (with_reducible repeat (first | refine blk_drewN ?_ _ | refine blk_drew ?_ | refine blk_alloc ?_ _)); exact BK110.out) hb); have n1_ := Aside0.mk (blk_below (g := gb113) (o := .cells #[.int .i64 ((rd_T160 (rd_L2 l0_1 a1) x16_1).f0), .int .i64 ((rd_T160 (rd_L2 l0_1 a1) x16_1).f1), .int .i64 ((rd_T160 (rd_L2 l0_1 a1) x16_1).f2)] 160 (0, 0)) (by (with_reducible repeat (first | refine blk_drewN ?_ _ | refine blk_drew ?_ | refine blk_alloc ?_ _)); exact BK113.out) hb); have n2_ := Aside0.mk (below_step (by repeat (first | (with_reducible first | exact HB.out | apply below_alloc | apply pw_below_drewN | apply below_drew1 | refine below_set ?_ GE110.out | refine below_set ?_ GE113.out) | exact HB.out)) hb); clear BK110; clear BK113; clear HB; have BK110 := n0_; have BK113 := n1_; have HB := n2_; clear n0_ n1_ n2_; (try clear hb); (try clear hb2); (try clear hk); (try clear hi)))
                          go_ret
                          exact ⟨by first | rfl | (simp [errW_none, errW_some] <;> rfl) | (simp [*, errW_none, errW_some] <;> rfl), by repeat (first | (with_reducible first | exact HB.out | apply below_alloc | apply pw_below_drewN | apply below_drew1 | refine below_set ?_ GE110.out | refine below_set ?_ GE113.out) | exact HB.out)⟩
                        · rw [if_neg c22] at H
                          have c22b0 : decide (x5_1 < t114) = false := decide_eq_false c22
                          clear c22
                          have H' := Aside0.mk H
                          clear H
                          have hnb27 := NB110_113.out
                          have hnc27 := NB113_110.out
                          have hcz28_0 : wc.cell? ⟨gb110, 0, none⟩ = some (.int .i64 a0_0) := (blk_cell BK110.out 0).trans rfl
                          have hcz28_1 : wc.cell? ⟨gb110, 1, none⟩ = some (.slice (some ad111) l0_1.length c0_1) := (blk_cell BK110.out 1).trans rfl
                          have hfz28_0 := blk_frozen BK110.out 0
                          have hfz28_1 := blk_frozen BK110.out 1
                          have hcz29_0 : wc.cell? ⟨gb113, 0, none⟩ = some (.int .i64 ((rd_T160 (rd_L2 l0_1 a1) x16_1).f0)) := (blk_cell BK113.out 0).trans rfl
                          have hcz29_1 : wc.cell? ⟨gb113, 1, none⟩ = some (.int .i64 ((rd_T160 (rd_L2 l0_1 a1) x16_1).f1)) := (blk_cell BK113.out 1).trans rfl
                          have hcz29_2 : wc.cell? ⟨gb113, 2, none⟩ = some (.int .i64 ((rd_T160 (rd_L2 l0_1 a1) x16_1).f2)) := (blk_cell BK113.out 2).trans rfl
                          have hfz29_0 := blk_frozen BK113.out 0
                          have hfz29_1 := blk_frozen BK113.out 1
                          have hfz29_2 := blk_frozen BK113.out 2
                          go_wp2_with (first | ((with_reducible refine gate_callee (f := 216) rfl ?_); refine goesL_ (some 32) rfl rfl Try.func216 (by kernel_rfl) rfl #[.agg #[.int .i64 a0_0, .slice (some ad111) l0_1.length c0_1], .int .i64 a1, .agg #[.int .i64 ((rd_T160 (rd_L2 l0_1 a1) x16_1).f0), .int .i64 ((rd_T160 (rd_L2 l0_1 a1) x16_1).f1), .int .i64 ((rd_T160 (rd_L2 l0_1 a1) x16_1).f2)]] rfl (by (try simp only [List.map_toArray, List.map_cons, List.map_nil]); first | done | rfl | (simp only [List.length_drop, List.length_take]; rfl)) ?_; (with_reducible refine (querylang_operands.calls a0_0 _ _ l0_1 a1 ((rd_T160 (rd_L2 l0_1 a1) x16_1).f0) ((rd_T160 (rd_L2 l0_1 a1) x16_1).f1) ((rd_T160 (rd_L2 l0_1 a1) x16_1).f2) t114 true _ ?side1 ?side2 A20.out).mono ?_); (case side1 => repeat (first | exact (Kd.C_below HR0_1.out HB.out) | (with_reducible refine Kd.C_alloc ?_ _) | (with_reducible refine Kd.C_drewN ?_ _) | (with_reducible refine Kd.C_drew ?_))); (case side2 => exact HC0_1.out); rintro e w30 ⟨rfl, hb⟩; refine ⟨_, rfl, ?_⟩; have n0_ := Aside0.mk (blk_below (g := gb110) (o := .cells #[.int .i64 a0_0, .slice (some ad111) l0_1.length c0_1] 24 (0, 0)) (by (with_reducible repeat (first | refine blk_drewN ?_ _ | refine blk_drew ?_ | refine blk_alloc ?_ _)); exact BK110.out) hb); have n1_ := Aside0.mk (blk_below (g := gb113) (o := .cells #[.int .i64 ((rd_T160 (rd_L2 l0_1 a1) x16_1).f0), .int .i64 ((rd_T160 (rd_L2 l0_1 a1) x16_1).f1), .int .i64 ((rd_T160 (rd_L2 l0_1 a1) x16_1).f2)] 160 (0, 0)) (by (with_reducible repeat (first | refine blk_drewN ?_ _ | refine blk_drew ?_ | refine blk_alloc ?_ _)); exact BK113.out) hb); have n2_ := Aside0.mk (below_step (by repeat (first | (with_reducible first | exact HB.out | apply below_alloc | apply pw_below_drewN | apply below_drew1 | refine below_set ?_ GE110.out | refine below_set ?_ GE113.out) | exact HB.out)) hb); clear BK110; clear BK113; clear HB; have BK110 := n0_; have BK113 := n1_; have HB := n2_; clear n0_ n1_ n2_; (try clear hb); (try clear hb2); (try clear hk); (try clear hi)))
                          go_roundg kj9
                          case measure => have := HK1.out; have := HJ9.out; omega
                          case rel => exact ⟨(wrap64 (x5_1 + (wrap64 (1 - t114)))), (wrap64 (x16_1 + 1)), (by first | rfl | (simp; done) | (simp [*]; done) | (simp [isEmpty_bne]; done)), (by first | rfl | (simp; done) | (simp [*]; done) | (simp [isEmpty_bne]; done)), H', ⟨by have := HK1.out; have := HJ9.out; omega⟩, ⟨by (with_reducible repeat (first | refine blk_drewN ?_ _ | refine blk_drew ?_ | refine blk_alloc ?_ _)); exact BK110.out⟩, ⟨by repeat (first | (with_reducible first | exact HB.out | apply below_alloc | apply pw_below_drewN | apply below_drew1 | refine below_set ?_ GE110.out | refine below_set ?_ GE113.out) | exact HB.out)⟩⟩
                      · replace c21 := Bool.eq_false_iff.mpr c21
                        subst c21
                        have H1 : (some 3) = some r := by rw [if_neg (show ¬ (false = true) by decide)] at H; exact H
                        clear H
                        have H := H1
                        clear H1
                        obtain rfl := Option.some.inj H
                        have hnb31 := NB110_113.out
                        have hnc31 := NB113_110.out
                        have hcz32_0 : wc.cell? ⟨gb110, 0, none⟩ = some (.int .i64 a0_0) := (blk_cell BK110.out 0).trans rfl
                        have hcz32_1 : wc.cell? ⟨gb110, 1, none⟩ = some (.slice (some ad111) l0_1.length c0_1) := (blk_cell BK110.out 1).trans rfl
                        have hfz32_0 := blk_frozen BK110.out 0
                        have hfz32_1 := blk_frozen BK110.out 1
                        have hcz33_0 : wc.cell? ⟨gb113, 0, none⟩ = some (.int .i64 ((rd_T160 (rd_L2 l0_1 a1) x16_1).f0)) := (blk_cell BK113.out 0).trans rfl
                        have hcz33_1 : wc.cell? ⟨gb113, 1, none⟩ = some (.int .i64 ((rd_T160 (rd_L2 l0_1 a1) x16_1).f1)) := (blk_cell BK113.out 1).trans rfl
                        have hcz33_2 : wc.cell? ⟨gb113, 2, none⟩ = some (.int .i64 ((rd_T160 (rd_L2 l0_1 a1) x16_1).f2)) := (blk_cell BK113.out 2).trans rfl
                        have hfz33_0 := blk_frozen BK113.out 0
                        have hfz33_1 := blk_frozen BK113.out 1
                        have hfz33_2 := blk_frozen BK113.out 2
                        go_wp2_with (first | ((with_reducible refine gate_callee (f := 216) rfl ?_); refine goesL_ (some 32) rfl rfl Try.func216 (by kernel_rfl) rfl #[.agg #[.int .i64 a0_0, .slice (some ad111) l0_1.length c0_1], .int .i64 a1, .agg #[.int .i64 ((rd_T160 (rd_L2 l0_1 a1) x16_1).f0), .int .i64 ((rd_T160 (rd_L2 l0_1 a1) x16_1).f1), .int .i64 ((rd_T160 (rd_L2 l0_1 a1) x16_1).f2)]] rfl (by (try simp only [List.map_toArray, List.map_cons, List.map_nil]); first | done | rfl | (simp only [List.length_drop, List.length_take]; rfl)) ?_; (with_reducible refine (querylang_operands.calls a0_0 _ _ l0_1 a1 ((rd_T160 (rd_L2 l0_1 a1) x16_1).f0) ((rd_T160 (rd_L2 l0_1 a1) x16_1).f1) ((rd_T160 (rd_L2 l0_1 a1) x16_1).f2) t114 false _ ?side1 ?side2 A20.out).mono ?_); (case side1 => repeat (first | exact (Kd.C_below HR0_1.out HB.out) | (with_reducible refine Kd.C_alloc ?_ _) | (with_reducible refine Kd.C_drewN ?_ _) | (with_reducible refine Kd.C_drew ?_))); (case side2 => exact HC0_1.out); rintro e w34 ⟨rfl, hb⟩; refine ⟨_, rfl, ?_⟩; have n0_ := Aside0.mk (blk_below (g := gb110) (o := .cells #[.int .i64 a0_0, .slice (some ad111) l0_1.length c0_1] 24 (0, 0)) (by (with_reducible repeat (first | refine blk_drewN ?_ _ | refine blk_drew ?_ | refine blk_alloc ?_ _)); exact BK110.out) hb); have n1_ := Aside0.mk (blk_below (g := gb113) (o := .cells #[.int .i64 ((rd_T160 (rd_L2 l0_1 a1) x16_1).f0), .int .i64 ((rd_T160 (rd_L2 l0_1 a1) x16_1).f1), .int .i64 ((rd_T160 (rd_L2 l0_1 a1) x16_1).f2)] 160 (0, 0)) (by (with_reducible repeat (first | refine blk_drewN ?_ _ | refine blk_drew ?_ | refine blk_alloc ?_ _)); exact BK113.out) hb); have n2_ := Aside0.mk (below_step (by repeat (first | (with_reducible first | exact HB.out | apply below_alloc | apply pw_below_drewN | apply below_drew1 | refine below_set ?_ GE110.out | refine below_set ?_ GE113.out) | exact HB.out)) hb); clear BK110; clear BK113; clear HB; have BK110 := n0_; have BK113 := n1_; have HB := n2_; clear n0_ n1_ n2_; (try clear hb); (try clear hb2); (try clear hk); (try clear hi)))
                        go_ret
                        exact ⟨by first | rfl | (simp [errW_none, errW_some] <;> rfl) | (simp [*, errW_none, errW_some] <;> rfl), by repeat (first | (with_reducible first | exact HB.out | apply below_alloc | apply pw_below_drewN | apply below_drew1 | refine below_set ?_ GE110.out | refine below_set ?_ GE113.out) | exact HB.out)⟩
              · rw [if_neg c9] at H
                exact absurd H (by simp)
            · rw [if_neg c8] at H
              exact absurd H (by simp)
          · rw [if_neg c7] at H
            have c7b0 : decide (x16_1 < ((rd_L2 l0_1 a1).length : Int)) = false := decide_eq_false c7
            clear c7
            by_cases c35 : x5_1 = 1
            · rw [if_pos c35] at H
              have c35b0 : (x5_1 == 1) = true := beq_iff_eq.mpr c35
              have c35b1 : (x5_1 != 1) = false := bne_eq_false_iff_eq.mpr c35
              clear c35
              obtain rfl := Option.some.inj H
              go_wp2
              go_ret
              exact ⟨by first | rfl | (simp [errW_none, errW_some] <;> rfl) | (simp [*, errW_none, errW_some] <;> rfl), by repeat (first | (with_reducible first | exact HB.out | apply below_alloc | apply pw_below_drewN | apply below_drew1 | refine below_set ?_ GE110.out) | exact HB.out)⟩
            · rw [if_neg c35] at H
              have c35b0 : (x5_1 == 1) = false := beq_eq_false_iff_ne.mpr c35
              have c35b1 : (x5_1 != 1) = true := bne_iff_ne.mpr c35
              obtain rfl := Option.some.inj H
              go_wp2
              go_ret
              exact ⟨by first | rfl | (simp [errW_none, errW_some] <;> rfl) | (simp [*, errW_none, errW_some] <;> rfl), by repeat (first | (with_reducible first | exact HB.out | apply below_alloc | apply pw_below_drewN | apply below_drew1 | refine below_set ?_ GE110.out) | exact HB.out)⟩
    · rw [if_neg c4] at H
      exact absurd H (by simp)
  · rw [if_neg c3] at H
    exact absurd H (by simp)

/-! ### querylang_Check_1: function 162 -/
def querylang_Check_1.f (l0 : List (S160)) : Option (Bool) := some (decide ((l0.length : Int) > 20))
set_option maxHeartbeats 8000000 in
set_option maxRecDepth 100000 in
theorem querylang_Check_1.calls (A0 : Option Addr) (c0 : Nat) (l0 : List (S160)) (r : Bool) (w : World) (hr0 : Kd.C k160 w A0 l0.length l0) (hc0 : l0.length ≤ c0) (h : querylang_Check_1.f l0 = some r) :
    Calls Try.prog 162 #[.slice A0 l0.length c0] w fun e w' => e = .returned (.bool r) ∧ Drawn0 w w' := by
  have HR0 := Aside0.mk hr0
  have HC0 := Aside0.mk hc0
  clear hr0 hc0
  have H : (some (decide ((l0.length : Int) > 20))) = some r := h
  clear h
  obtain rfl := Option.some.inj H
  go_enter Try.func162, Try.ntmps162
  go_wp2
  go_ret
  exact ⟨by first | rfl | (simp; done) | (simp [*]; done), by repeat (first | exact Drawn0.refl _ | apply Drawn0.step)⟩

/-! ### slices_IndexFunc_215_at_162: function 294 -/
def slices_IndexFunc_215_at_162.l0 : Nat → List (List (S160)) → Int → Int → Option (Int)
  | 0, _, _, _ => none
  | k + 1, x0, x7, x8 => if x8 < x7 then (if 0 ≤ x8 then (if x8 < (x0.length : Int) then ((querylang_Check_1.f (rd_L2 x0 x8)).bind fun t117 => (if t117 = true then (some x8) else (slices_IndexFunc_215_at_162.l0 k x0 x7 (wrap64 (x8 + 1))))) else (none)) else (none)) else (some (-1))
def slices_IndexFunc_215_at_162.f (k : Nat) (l0 : List (List (S160)))  : Option (Int) := slices_IndexFunc_215_at_162.l0 k l0 (l0.length : Int) 0
theorem slices_IndexFunc_215_at_162.mono_l : ∀ k, (∀ y0 y1 y2, LeO (slices_IndexFunc_215_at_162.l0 k y0 y1 y2) (slices_IndexFunc_215_at_162.l0 (k + 1) y0 y1 y2))
  | 0 => fun _ _ _ r h => by simp [slices_IndexFunc_215_at_162.l0] at h
  | k + 1 => by
    have ih0 := slices_IndexFunc_215_at_162.mono_l k
    · intro y0 y1 y2
      unfold slices_IndexFunc_215_at_162.l0
      repeat' first
      | (with_reducible exact ih0 _ _ _)
      | (with_reducible exact LeO.refl _)
      | (with_reducible exact LeO.none _)
      | (with_reducible refine LeO.ite ?_ ?_)
      | (with_reducible refine LeO.bind ?_ (fun _ => ?_))
      | exact ih0 _ _ _
      | exact LeO.none _
      | refine LeO.ite ?_ ?_
      | refine LeO.bind ?_ (fun _ => ?_)
theorem slices_IndexFunc_215_at_162.mono : ∀ a0 k, LeO (slices_IndexFunc_215_at_162.f k a0) (slices_IndexFunc_215_at_162.f (k + 1) a0) := by
  intro a0 k
  have ih0 := slices_IndexFunc_215_at_162.mono_l k
  unfold slices_IndexFunc_215_at_162.f
  repeat' first
      | (with_reducible exact ih0 _ _ _)
      | (with_reducible exact LeO.refl _)
      | (with_reducible exact LeO.none _)
      | (with_reducible refine LeO.ite ?_ ?_)
      | (with_reducible refine LeO.bind ?_ (fun _ => ?_))
      | exact ih0 _ _ _
      | exact LeO.none _
      | refine LeO.ite ?_ ?_
      | refine LeO.bind ?_ (fun _ => ?_)
set_option maxHeartbeats 8000000 in
set_option maxRecDepth 100000 in
theorem slices_IndexFunc_215_at_162.calls (k : Nat) (A0 : Option Addr) (c0 : Nat) (l0 : List (List (S160)))  (r : Int) (w : World) (hr0 : Kd.C (Kd.slice 160 k160) w A0 l0.length l0) (hc0 : l0.length ≤ c0) (h : slices_IndexFunc_215_at_162.f k l0 = some r) :
    Calls Try.prog 215 #[.slice A0 l0.length c0, .func (.func 162) #[] #[]] w fun e w' => e = .returned (.int .i64 r) ∧ Below w.heap.size w w' := by
  have HR0 := Aside0.mk hr0
  have HC0 := Aside0.mk hc0
  clear hr0 hc0
  have HB := Aside0.mk (Below.refl w.heap.size w)
  have H : (slices_IndexFunc_215_at_162.l0 k l0 (l0.length : Int) 0) = some r := h
  clear h
  have H' := Aside0.mk H
  clear H
  go_enter Try.func215, Try.ntmps215
  go_wp2
  go_loopg [8] k (fun kq v8 w' => ∃ (x8_1 : Int), v8 = .int .i64 x8_1 ∧ Aside0 (slices_IndexFunc_215_at_162.l0 kq l0 (l0.length : Int) x8_1 = some r) ∧ Aside0 (kq ≤ k) ∧ Aside0 (Below w.heap.size w w'))
  case atStart => exact ⟨(0), (by first | rfl | (simp; done) | (simp [*]; done) | (simp [isEmpty_bne]; done)), H', ⟨Nat.le_refl _⟩, ⟨by repeat (first | (with_reducible first | exact HB.out | apply below_alloc | apply pw_below_drewN | apply below_drew1) | exact HB.out)⟩⟩
  case round =>
    clear H'
    try clear c2
    try clear p2
    obtain ⟨x8_1, rfl, HA, HK1, HB⟩ := hrel
    cases gk with
    | zero => exact absurd HA.out (by simp [slices_IndexFunc_215_at_162.l0])
    | succ k1 =>
      have H := HA.out
      clear HA
      simp only [slices_IndexFunc_215_at_162.l0] at H
      by_cases c3 : x8_1 < (l0.length : Int)
      · rw [if_pos c3] at H
        have c3b0 : decide (x8_1 < (l0.length : Int)) = true := decide_eq_true c3
        clear c3
        by_cases c4 : 0 ≤ x8_1
        · rw [if_pos c4] at H
          have c4b0 : decide (0 ≤ x8_1) = true := decide_eq_true c4
          clear c4
          by_cases c5 : x8_1 < (l0.length : Int)
          · rw [if_pos c5] at H
            have c5b0 : decide (x8_1 < (l0.length : Int)) = true := decide_eq_true c5
            clear c5
            replace H := Option.bind_eq_some_iff.mp H
            obtain ⟨t117, A60, H⟩ := H
            replace H : (if t117 = true then (some x8_1) else (slices_IndexFunc_215_at_162.l0 k1 l0 (l0.length : Int) (wrap64 (x8_1 + 1)))) = some r := H
            have A6 := Aside0.mk A60
            clear A60
            by_cases c7 : t117 = true
            · subst c7
              have H1 : (some x8_1) = some r := by rw [if_pos rfl] at H; exact H
              clear H
              have H := H1
              clear H1
              obtain rfl := Option.some.inj H
              have p116 : 0 ≤ (x8_1 : Int) := of_decide_eq_true (by first | (with_reducible assumption) | assumption)
              have q116 : x8_1 < (l0.length : Int) := of_decide_eq_true (by first | (with_reducible assumption) | assumption)
              obtain ⟨ad116, A116_0, c116_0, e116, hx116_0, hl116_0, hi116_0⟩ := at_L2 HR0.out x8_1 p116 q116
              cases e116
              replace hx116_0 := (HB.out.cell (World.block_lt_of_cell? w _ hx116_0)).trans hx116_0
              have HR116_0 := Aside0.mk hi116_0
              have HC116_0 := Aside0.mk hl116_0
              clear hi116_0 hl116_0
              replace p116 := eq_true p116
              replace q116 := eq_true q116
              go_wp2_with (first | (go_at_call 162; (with_reducible refine (querylang_Check_1.calls _ _ (rd_L2 l0 x8_1) true _ ?side1 ?side2 A6.out).mono ?_); (case side1 => repeat (first | exact (Kd.C_below HR116_0.out HB.out) | (with_reducible refine Kd.C_alloc ?_ _) | (with_reducible refine Kd.C_drewN ?_ _) | (with_reducible refine Kd.C_drew ?_))); (case side2 => exact HC116_0.out); rintro e w' ⟨rfl, ⟨nd, rfl⟩⟩))
              go_ret
              exact ⟨by first | rfl | (simp [errW_none, errW_some] <;> rfl) | (simp [*, errW_none, errW_some] <;> rfl), by repeat (first | (with_reducible first | exact HB.out | apply below_alloc | apply pw_below_drewN | apply below_drew1) | exact HB.out)⟩
            · replace c7 := Bool.eq_false_iff.mpr c7
              subst c7
              have H1 : (slices_IndexFunc_215_at_162.l0 k1 l0 (l0.length : Int) (wrap64 (x8_1 + 1))) = some r := by rw [if_neg (show ¬ (false = true) by decide)] at H; exact H
              clear H
              have H := H1
              clear H1
              have H' := Aside0.mk H
              clear H
              have p116 : 0 ≤ (x8_1 : Int) := of_decide_eq_true (by first | (with_reducible assumption) | assumption)
              have q116 : x8_1 < (l0.length : Int) := of_decide_eq_true (by first | (with_reducible assumption) | assumption)
              obtain ⟨ad116, A116_0, c116_0, e116, hx116_0, hl116_0, hi116_0⟩ := at_L2 HR0.out x8_1 p116 q116
              cases e116
              replace hx116_0 := (HB.out.cell (World.block_lt_of_cell? w _ hx116_0)).trans hx116_0
              have HR116_0 := Aside0.mk hi116_0
              have HC116_0 := Aside0.mk hl116_0
              clear hi116_0 hl116_0
              replace p116 := eq_true p116
              replace q116 := eq_true q116
              go_wp2_with (first | (go_at_call 162; (with_reducible refine (querylang_Check_1.calls _ _ (rd_L2 l0 x8_1) false _ ?side1 ?side2 A6.out).mono ?_); (case side1 => repeat (first | exact (Kd.C_below HR116_0.out HB.out) | (with_reducible refine Kd.C_alloc ?_ _) | (with_reducible refine Kd.C_drewN ?_ _) | (with_reducible refine Kd.C_drew ?_))); (case side2 => exact HC116_0.out); rintro e w' ⟨rfl, ⟨nd, rfl⟩⟩))
              go_roundg k1
              case measure => have := HK1.out; omega
              case rel => exact ⟨(wrap64 (x8_1 + 1)), (by first | rfl | (simp; done) | (simp [*]; done) | (simp [isEmpty_bne]; done)), H', ⟨by have := HK1.out; omega⟩, ⟨by repeat (first | (with_reducible first | exact HB.out | apply below_alloc | apply pw_below_drewN | apply below_drew1) | exact HB.out)⟩⟩
          · rw [if_neg c5] at H
            exact absurd H (by simp)
        · rw [if_neg c4] at H
          exact absurd H (by simp)
      · rw [if_neg c3] at H
        have c3b0 : decide (x8_1 < (l0.length : Int)) = false := decide_eq_false c3
        clear c3
        obtain rfl := Option.some.inj H
        go_wp2
        go_ret
        exact ⟨by first | rfl | (simp [errW_none, errW_some] <;> rfl) | (simp [*, errW_none, errW_some] <;> rfl), by repeat (first | (with_reducible first | exact HB.out | apply below_alloc | apply pw_below_drewN | apply below_drew1) | exact HB.out)⟩

/-! ### slices_ContainsFunc_163_at_162: function 293 -/
def slices_ContainsFunc_163_at_162.f (k : Nat) (l0 : List (List (S160)))  : Option (Bool) := (slices_IndexFunc_215_at_162.f k l0).bind fun t118 => (some (decide (t118 ≥ 0)))
theorem slices_ContainsFunc_163_at_162.mono : ∀ a0 k, LeO (slices_ContainsFunc_163_at_162.f k a0) (slices_ContainsFunc_163_at_162.f (k + 1) a0) := by
  intro a0 k
  unfold slices_ContainsFunc_163_at_162.f
  repeat' first
      | (with_reducible exact slices_IndexFunc_215_at_162.mono _ _)
      | (with_reducible exact LeO.refl _)
      | (with_reducible exact LeO.none _)
      | (with_reducible refine LeO.ite ?_ ?_)
      | (with_reducible refine LeO.bind ?_ (fun _ => ?_))
      | exact slices_IndexFunc_215_at_162.mono _ _
      | exact LeO.none _
      | refine LeO.ite ?_ ?_
      | refine LeO.bind ?_ (fun _ => ?_)
set_option maxHeartbeats 8000000 in
set_option maxRecDepth 100000 in
theorem slices_ContainsFunc_163_at_162.calls (k : Nat) (A0 : Option Addr) (c0 : Nat) (l0 : List (List (S160)))  (r : Bool) (w : World) (hr0 : Kd.C (Kd.slice 160 k160) w A0 l0.length l0) (hc0 : l0.length ≤ c0) (h : slices_ContainsFunc_163_at_162.f k l0 = some r) :
    Calls Try.prog 163 #[.slice A0 l0.length c0, .func (.func 162) #[] #[]] w fun e w' => e = .returned (.bool r) ∧ Below w.heap.size w w' := by
  have HR0 := Aside0.mk hr0
  have HC0 := Aside0.mk hc0
  clear hr0 hc0
  have HB := Aside0.mk (Below.refl w.heap.size w)
  have H : ((slices_IndexFunc_215_at_162.f k l0).bind fun t118 => (some (decide (t118 ≥ 0)))) = some r := h
  clear h
  replace H := Option.bind_eq_some_iff.mp H
  obtain ⟨t118, A30, H⟩ := H
  replace H : (some (decide (t118 ≥ 0))) = some r := H
  have A3 := Aside0.mk A30
  clear A30
  obtain rfl := Option.some.inj H
  go_enter Try.func163, Try.ntmps163
  go_wp2_with (first | (go_at_call 215; (with_reducible refine (slices_IndexFunc_215_at_162.calls k _ _ l0  t118 _ ?side1 ?side2 A3.out).mono ?_); (case side1 => repeat (first | exact HR0.out | (with_reducible refine Kd.C_alloc ?_ _) | (with_reducible refine Kd.C_drewN ?_ _) | (with_reducible refine Kd.C_drew ?_))); (case side2 => exact HC0.out); rintro e w4 ⟨rfl, hb⟩; have n0_ := Aside0.mk (below_step (by repeat (first | (with_reducible first | exact HB.out | apply below_alloc | apply pw_below_drewN | apply below_drew1) | exact HB.out)) hb); clear HB; have HB := n0_; clear n0_; (try clear hb); (try clear hb2); (try clear hk); (try clear hi)))
  go_ret
  exact ⟨by first | rfl | (simp [errW_none, errW_some] <;> rfl) | (simp [*, errW_none, errW_some] <;> rfl), by repeat (first | (with_reducible first | exact HB.out | apply below_alloc | apply pw_below_drewN | apply below_drew1) | exact HB.out)⟩

/-! ### querylang_Check: function 87 -/
mutual
def querylang_Check.j0 : Nat → Bool → Int → List (List (S160)) → Option (Int)
  | 0, _, _, _ => none
  | k + 1, x20, x120000, x120001 => if x20 = true then (some 2) else (if x120000 < 0 then (some 1) else (querylang_Check.l0 k (x120001.length : Int) 0 x120000 x120001))
def querylang_Check.l0 : Nat → Int → Int → Int → List (List (S160)) → Option (Int)
  | 0, _, _, _, _ => none
  | k + 1, x26, x27, x120000, x120001 => if x27 < x26 then ((querylang_checkQuery.f k x120000 x120001 x27).bind fun t121 => (if t121 = 0 then (querylang_Check.l0 k x26 (wrap64 (x27 + 1)) x120000 x120001) else (some t121))) else (some 0)
end
def querylang_Check.f (k : Nat) (a0_0 : Int) (l0_1 : List (List (S160))) : Option (Int) := if a0_0 > 40 then (querylang_Check.j0 k true a0_0 l0_1) else (if (l0_1.length : Int) > 40 then (querylang_Check.j0 k true a0_0 l0_1) else ((slices_ContainsFunc_163_at_162.f k l0_1).bind fun t120 => (querylang_Check.j0 k t120 a0_0 l0_1)))
theorem querylang_Check.mono_l : ∀ k, (∀ y0 y1 y2, LeO (querylang_Check.j0 k y0 y1 y2) (querylang_Check.j0 (k + 1) y0 y1 y2)) ∧ (∀ y0 y1 y2 y3, LeO (querylang_Check.l0 k y0 y1 y2 y3) (querylang_Check.l0 (k + 1) y0 y1 y2 y3))
  | 0 => ⟨fun _ _ _ r h => by simp [querylang_Check.j0] at h, fun _ _ _ _ r h => by simp [querylang_Check.l0] at h⟩
  | k + 1 => by
    obtain ⟨ih0, ih1⟩ := querylang_Check.mono_l k
    refine ⟨?_, ?_⟩
    · intro y0 y1 y2
      unfold querylang_Check.j0
      repeat' first
      | (with_reducible exact ih0 _ _ _)
      | (with_reducible exact ih1 _ _ _ _)
      | (with_reducible exact querylang_checkQuery.mono _ _ _ _)
      | (with_reducible exact slices_ContainsFunc_163_at_162.mono _ _)
      | (with_reducible exact LeO.refl _)
      | (with_reducible exact LeO.none _)
      | (with_reducible refine LeO.ite ?_ ?_)
      | (with_reducible refine LeO.bind ?_ (fun _ => ?_))
      | exact ih0 _ _ _
      | exact ih1 _ _ _ _
      | exact querylang_checkQuery.mono _ _ _ _
      | exact slices_ContainsFunc_163_at_162.mono _ _
      | exact LeO.none _
      | refine LeO.ite ?_ ?_
      | refine LeO.bind ?_ (fun _ => ?_)
    · intro y0 y1 y2 y3
      unfold querylang_Check.l0
      repeat' first
      | (with_reducible exact ih0 _ _ _)
      | (with_reducible exact ih1 _ _ _ _)
      | (with_reducible exact querylang_checkQuery.mono _ _ _ _)
      | (with_reducible exact slices_ContainsFunc_163_at_162.mono _ _)
      | (with_reducible exact LeO.refl _)
      | (with_reducible exact LeO.none _)
      | (with_reducible refine LeO.ite ?_ ?_)
      | (with_reducible refine LeO.bind ?_ (fun _ => ?_))
      | exact ih0 _ _ _
      | exact ih1 _ _ _ _
      | exact querylang_checkQuery.mono _ _ _ _
      | exact slices_ContainsFunc_163_at_162.mono _ _
      | exact LeO.none _
      | refine LeO.ite ?_ ?_
      | refine LeO.bind ?_ (fun _ => ?_)
theorem querylang_Check.mono : ∀ a0 a1 k, LeO (querylang_Check.f k a0 a1) (querylang_Check.f (k + 1) a0 a1) := by
  intro a0 a1 k
  obtain ⟨ih0, ih1⟩ := querylang_Check.mono_l k
  unfold querylang_Check.f
  repeat' first
      | (with_reducible exact ih0 _ _ _)
      | (with_reducible exact ih1 _ _ _ _)
      | (with_reducible exact querylang_checkQuery.mono _ _ _ _)
      | (with_reducible exact slices_ContainsFunc_163_at_162.mono _ _)
      | (with_reducible exact LeO.refl _)
      | (with_reducible exact LeO.none _)
      | (with_reducible refine LeO.ite ?_ ?_)
      | (with_reducible refine LeO.bind ?_ (fun _ => ?_))
      | exact ih0 _ _ _
      | exact ih1 _ _ _ _
      | exact querylang_checkQuery.mono _ _ _ _
      | exact slices_ContainsFunc_163_at_162.mono _ _
      | exact LeO.none _
      | refine LeO.ite ?_ ?_
      | refine LeO.bind ?_ (fun _ => ?_)
set_option maxHeartbeats 8000000 in
set_option maxRecDepth 100000 in
theorem querylang_Check.calls (k : Nat) (a0_0 : Int) (A0_1 : Option Addr) (c0_1 : Nat) (l0_1 : List (List (S160))) (r : Int) (w : World) (hr0_1 : Kd.C (Kd.slice 160 k160) w A0_1 l0_1.length l0_1) (hc0_1 : l0_1.length ≤ c0_1) (h : querylang_Check.f k a0_0 l0_1 = some r) :
    Calls Try.prog 87 #[.agg #[.int .i64 a0_0, .slice A0_1 l0_1.length c0_1]] w fun e w' => e = .returned (.int .i64 r) ∧ Below w.heap.size w w' := by
  have hu24 := Try.underlying24
  have HR0_1 := Aside0.mk hr0_1
  have HC0_1 := Aside0.mk hc0_1
  clear hr0_1 hc0_1
  have HB := Aside0.mk (Below.refl w.heap.size w)
  have H : (if a0_0 > 40 then (querylang_Check.j0 k true a0_0 l0_1) else (if (l0_1.length : Int) > 40 then (querylang_Check.j0 k true a0_0 l0_1) else ((slices_ContainsFunc_163_at_162.f k l0_1).bind fun t120 => (querylang_Check.j0 k t120 a0_0 l0_1)))) = some r := h
  clear h
  have HC2 := Aside0.mk H
  clear H
  go_enter Try.func87, Try.ntmps87
  go_upto_region 2 with (first | ((with_reducible refine gate_dst (N := 1) rfl ?_); (try (refine gate_guard (by rfl) ?_; dsimp only)); refine box_event ?hg (N := 1) ?hd (cs := #[.int .i64 a0_0, .slice A0_1 l0_1.length c0_1]) (t := 24) ?hr ?_; (case hd => rfl); (case hg => rfl); (case hr => first | (go_simp; done) | (go_simp; rfl)); intro gb119 hg w3 hbox hb; have n0_ := Aside0.mk (below_step (by repeat (first | (with_reducible first | exact HB.out | apply below_alloc | apply pw_below_drewN | apply below_drew1) | exact HB.out)) hb); have n1_ := Aside0.mk (hbox); have n2_ := Aside0.mk ((by rw [hg]; exact (below_size (by repeat (first | (with_reducible first | exact HB.out | apply below_alloc | apply pw_below_drewN | apply below_drew1) | exact HB.out))) : w.heap.size ≤ gb119)); have n3_ := Aside0.mk ((by rw [hg]; exact (below_size (by repeat (first | (with_reducible first | exact HB.out | apply below_alloc | apply pw_below_drewN | apply below_drew1) | exact HB.out))) : w.heap.size ≤ gb119)); clear HB; have HB := n0_; have BK119 := n1_; have GW119 := n2_; have GE119 := n3_; clear n0_ n1_ n2_ n3_; clear hb hbox hg))
  (try simp only [Act.put, List.setIfInBounds_toArray, List.set_cons_zero, List.set_cons_succ])
  go_cut [20] (fun v20 wc => ∃ (kq : Nat) (x20_1 : Bool), v20 = .bool x20_1 ∧ Aside0 (querylang_Check.j0 kq x20_1 a0_0 l0_1 = some r) ∧ Aside0 (kq ≤ k) ∧ Aside0 (wc.heap[gb119]? = some (.cells #[.int .i64 a0_0, (.slice A0_1 l0_1.length c0_1)] 24 (0, 0))) ∧ Aside0 (Below w.heap.size w wc))
  case first =>
    have H := HC2.out
    clear HC2
    by_cases c4 : a0_0 > 40
    · rw [if_pos c4] at H
      have c4b0 : decide (40 < a0_0) = true := decide_eq_true c4
      clear c4
      (first | rw [c4b0] | (simp only [i64_w, i32_w]; rw [c4b0]) | skip)
      have H' := Aside0.mk H
      clear H
      have hcz5_0 : w3.cell? ⟨gb119, 0, none⟩ = some (.int .i64 a0_0) := (blk_cell BK119.out 0).trans rfl
      have hcz5_1 : w3.cell? ⟨gb119, 1, none⟩ = some (.slice A0_1 l0_1.length c0_1) := (blk_cell BK119.out 1).trans rfl
      have hfz5_0 := blk_frozen BK119.out 0
      have hfz5_1 := blk_frozen BK119.out 1
      go_wp2
      go_meet
      case rel => exact ⟨_, (true), (by first | rfl | (simp; done) | (simp [*]; done) | (simp [isEmpty_bne]; done)), H', ⟨by first | omega | exact Nat.le_refl _⟩, ⟨by (with_reducible repeat (first | refine blk_drewN ?_ _ | refine blk_drew ?_ | refine blk_alloc ?_ _)); exact BK119.out⟩, ⟨by repeat (first | (with_reducible first | exact HB.out | apply below_alloc | apply pw_below_drewN | apply below_drew1 | refine below_set ?_ GE119.out) | exact HB.out)⟩⟩
    · rw [if_neg c4] at H
      have c4b0 : decide (40 < a0_0) = false := decide_eq_false c4
      clear c4
      (first | rw [c4b0] | (simp only [i64_w, i32_w]; rw [c4b0]) | skip)
      by_cases c6 : (l0_1.length : Int) > 40
      · rw [if_pos c6] at H
        have c6b0 : decide (40 < (l0_1.length : Int)) = true := decide_eq_true c6
        have c6b1 : decide (40 < l0_1.length) = true := decide_eq_true (by omega)
        clear c6
        have H' := Aside0.mk H
        clear H
        have hcz7_0 : w3.cell? ⟨gb119, 0, none⟩ = some (.int .i64 a0_0) := (blk_cell BK119.out 0).trans rfl
        have hcz7_1 : w3.cell? ⟨gb119, 1, none⟩ = some (.slice A0_1 l0_1.length c0_1) := (blk_cell BK119.out 1).trans rfl
        have hfz7_0 := blk_frozen BK119.out 0
        have hfz7_1 := blk_frozen BK119.out 1
        go_wp2
        go_meet
        case rel => exact ⟨_, (true), (by first | rfl | (simp; done) | (simp [*]; done) | (simp [isEmpty_bne]; done)), H', ⟨by first | omega | exact Nat.le_refl _⟩, ⟨by (with_reducible repeat (first | refine blk_drewN ?_ _ | refine blk_drew ?_ | refine blk_alloc ?_ _)); exact BK119.out⟩, ⟨by repeat (first | (with_reducible first | exact HB.out | apply below_alloc | apply pw_below_drewN | apply below_drew1 | refine below_set ?_ GE119.out) | exact HB.out)⟩⟩
      · rw [if_neg c6] at H
        have c6b0 : decide (40 < (l0_1.length : Int)) = false := decide_eq_false c6
        have c6b1 : decide (40 < l0_1.length) = false := decide_eq_false (by omega)
        clear c6
        replace H := Option.bind_eq_some_iff.mp H
        obtain ⟨t120, A80, H⟩ := H
        replace H : (querylang_Check.j0 k t120 a0_0 l0_1) = some r := H
        have A8 := Aside0.mk A80
        clear A80
        have H' := Aside0.mk H
        clear H
        have hcz9_0 : w3.cell? ⟨gb119, 0, none⟩ = some (.int .i64 a0_0) := (blk_cell BK119.out 0).trans rfl
        have hcz9_1 : w3.cell? ⟨gb119, 1, none⟩ = some (.slice A0_1 l0_1.length c0_1) := (blk_cell BK119.out 1).trans rfl
        have hfz9_0 := blk_frozen BK119.out 0
        have hfz9_1 := blk_frozen BK119.out 1
        go_wp2_with (first | (go_at_call 163; (with_reducible refine (slices_ContainsFunc_163_at_162.calls k _ _ l0_1  t120 _ ?side1 ?side2 A8.out).mono ?_); (case side1 => repeat (first | exact (Kd.C_below HR0_1.out HB.out) | (with_reducible refine Kd.C_alloc ?_ _) | (with_reducible refine Kd.C_drewN ?_ _) | (with_reducible refine Kd.C_drew ?_))); (case side2 => exact HC0_1.out); rintro e w10 ⟨rfl, hb⟩; have n0_ := Aside0.mk (blk_below (g := gb119) (o := .cells #[.int .i64 a0_0, .slice A0_1 l0_1.length c0_1] 24 (0, 0)) (by (with_reducible repeat (first | refine blk_drewN ?_ _ | refine blk_drew ?_ | refine blk_alloc ?_ _)); exact BK119.out) hb); have n1_ := Aside0.mk (below_step (by repeat (first | (with_reducible first | exact HB.out | apply below_alloc | apply pw_below_drewN | apply below_drew1 | refine below_set ?_ GE119.out) | exact HB.out)) hb); clear BK119; clear HB; have BK119 := n0_; have HB := n1_; clear n0_ n1_; (try clear hb); (try clear hb2); (try clear hk); (try clear hi)))
        go_meet
        case rel => exact ⟨_, (t120), (by first | rfl | (simp; done) | (simp [*]; done) | (simp [isEmpty_bne]; done)), H', ⟨by first | omega | exact Nat.le_refl _⟩, ⟨by (with_reducible repeat (first | refine blk_drewN ?_ _ | refine blk_drew ?_ | refine blk_alloc ?_ _)); exact BK119.out⟩, ⟨by repeat (first | (with_reducible first | exact HB.out | apply below_alloc | apply pw_below_drewN | apply below_drew1 | refine below_set ?_ GE119.out) | exact HB.out)⟩⟩
  case rest =>
    clear HC2
    try clear p2
    try clear c4
    try clear c4b0
    try clear c6
    try clear c6b0
    try clear c6b1
    try clear c8
    try clear hcz5_0
    try clear hcz5_1
    try clear hcz7_0
    try clear hcz7_1
    try clear hcz9_0
    try clear hcz9_1
    try clear hfz5_0
    try clear hfz5_1
    try clear hfz7_0
    try clear hfz7_1
    try clear hfz9_0
    try clear hfz9_1
    obtain ⟨kq, x20_1, rfl, HA, HJ1, BK119, HB⟩ := hcut
    cases kq with
    | zero => exact absurd HA.out (by simp [querylang_Check.j0])
    | succ kj1 =>
      have H := HA.out
      clear HA
      simp only [querylang_Check.j0] at H
      by_cases c11 : x20_1 = true
      · subst c11
        have H1 : (some 2) = some r := by rw [if_pos rfl] at H; exact H
        clear H
        have H := H1
        clear H1
        obtain rfl := Option.some.inj H
        go_wp2
        go_ret
        exact ⟨by first | rfl | (simp [errW_none, errW_some] <;> rfl) | (simp [*, errW_none, errW_some] <;> rfl), by repeat (first | (with_reducible first | exact HB.out | apply below_alloc | apply pw_below_drewN | apply below_drew1 | refine below_set ?_ GE119.out) | exact HB.out)⟩
      · replace c11 := Bool.eq_false_iff.mpr c11
        subst c11
        have H1 : (if a0_0 < 0 then (some 1) else (querylang_Check.l0 kj1 (l0_1.length : Int) 0 a0_0 l0_1)) = some r := by rw [if_neg (show ¬ (false = true) by decide)] at H; exact H
        clear H
        have H := H1
        clear H1
        by_cases c12 : a0_0 < 0
        · rw [if_pos c12] at H
          have c12b0 : decide (a0_0 < 0) = true := decide_eq_true c12
          clear c12
          obtain rfl := Option.some.inj H
          have hcz13_0 : wc.cell? ⟨gb119, 0, none⟩ = some (.int .i64 a0_0) := (blk_cell BK119.out 0).trans rfl
          have hcz13_1 : wc.cell? ⟨gb119, 1, none⟩ = some (.slice A0_1 l0_1.length c0_1) := (blk_cell BK119.out 1).trans rfl
          have hfz13_0 := blk_frozen BK119.out 0
          have hfz13_1 := blk_frozen BK119.out 1
          go_wp2
          go_ret
          exact ⟨by first | rfl | (simp [errW_none, errW_some] <;> rfl) | (simp [*, errW_none, errW_some] <;> rfl), by repeat (first | (with_reducible first | exact HB.out | apply below_alloc | apply pw_below_drewN | apply below_drew1 | refine below_set ?_ GE119.out) | exact HB.out)⟩
        · rw [if_neg c12] at H
          have c12b0 : decide (a0_0 < 0) = false := decide_eq_false c12
          clear c12
          have H' := Aside0.mk H
          clear H
          have hcz14_0 : wc.cell? ⟨gb119, 0, none⟩ = some (.int .i64 a0_0) := (blk_cell BK119.out 0).trans rfl
          have hcz14_1 : wc.cell? ⟨gb119, 1, none⟩ = some (.slice A0_1 l0_1.length c0_1) := (blk_cell BK119.out 1).trans rfl
          have hfz14_0 := blk_frozen BK119.out 0
          have hfz14_1 := blk_frozen BK119.out 1
          go_wp2
          go_loopg [27] kj1 (fun kq v27 w' => ∃ (x27_2 : Int), v27 = .int .i64 x27_2 ∧ Aside0 (querylang_Check.l0 kq (l0_1.length : Int) x27_2 a0_0 l0_1 = some r) ∧ Aside0 (kq ≤ kj1) ∧ Aside0 (w'.heap[gb119]? = some (.cells #[.int .i64 a0_0, (.slice A0_1 l0_1.length c0_1)] 24 (0, 0))) ∧ Aside0 (Below w.heap.size w w'))
          case atStart => exact ⟨(0), (by first | rfl | (simp; done) | (simp [*]; done) | (simp [isEmpty_bne]; done)), H', ⟨Nat.le_refl _⟩, ⟨by (with_reducible repeat (first | refine blk_drewN ?_ _ | refine blk_drew ?_ | refine blk_alloc ?_ _)); exact BK119.out⟩, ⟨by repeat (first | (with_reducible first | exact HB.out | apply below_alloc | apply pw_below_drewN | apply below_drew1 | refine below_set ?_ GE119.out) | exact HB.out)⟩⟩
          case round =>
            clear H'
            try clear c1
            try clear p2
            try clear c4
            try clear c4b0
            try clear c6
            try clear c6b0
            try clear c6b1
            try clear c8
            try clear c11
            try clear c12
            try clear c12b0
            try clear hcz13_0
            try clear hcz13_1
            try clear hcz14_0
            try clear hcz14_1
            try clear hcz5_0
            try clear hcz5_1
            try clear hcz7_0
            try clear hcz7_1
            try clear hcz9_0
            try clear hcz9_1
            try clear hfz13_0
            try clear hfz13_1
            try clear hfz14_0
            try clear hfz14_1
            try clear hfz5_0
            try clear hfz5_1
            try clear hfz7_0
            try clear hfz7_1
            try clear hfz9_0
            try clear hfz9_1
            try clear p2
            obtain ⟨x27_2, rfl, HA, HK2, BK119, HB⟩ := hrel
            cases gk with
            | zero => exact absurd HA.out (by simp [querylang_Check.l0])
            | succ k2 =>
              have H := HA.out
              clear HA
              simp only [querylang_Check.l0] at H
              by_cases c15 : x27_2 < (l0_1.length : Int)
              · rw [if_pos c15] at H
                have c15b0 : decide (x27_2 < (l0_1.length : Int)) = true := decide_eq_true c15
                clear c15
                replace H := Option.bind_eq_some_iff.mp H
                obtain ⟨t121, A160, H⟩ := H
                replace H : (if t121 = 0 then (querylang_Check.l0 k2 (l0_1.length : Int) (wrap64 (x27_2 + 1)) a0_0 l0_1) else (some t121)) = some r := H
                have A16 := Aside0.mk A160
                clear A160
                by_cases c17 : t121 = 0
                · rw [if_pos c17] at H
                  have c17b0 : (t121 == 0) = true := beq_iff_eq.mpr c17
                  have c17b1 : (t121 != 0) = false := bne_eq_false_iff_eq.mpr c17
                  clear c17
                  have H' := Aside0.mk H
                  clear H
                  have hcz18_0 : wr.cell? ⟨gb119, 0, none⟩ = some (.int .i64 a0_0) := (blk_cell BK119.out 0).trans rfl
                  have hcz18_1 : wr.cell? ⟨gb119, 1, none⟩ = some (.slice A0_1 l0_1.length c0_1) := (blk_cell BK119.out 1).trans rfl
                  have hfz18_0 := blk_frozen BK119.out 0
                  have hfz18_1 := blk_frozen BK119.out 1
                  go_wp2_with (first | ((with_reducible refine gate_callee (f := 164) rfl ?_); refine goesL_ (some 32) rfl rfl Try.func164 (by kernel_rfl) rfl #[.agg #[.int .i64 a0_0, .slice A0_1 l0_1.length c0_1], .int .i64 x27_2] rfl (by (try simp only [List.map_toArray, List.map_cons, List.map_nil]); first | done | rfl | (simp only [List.length_drop, List.length_take]; rfl)) ?_; (with_reducible refine (querylang_checkQuery.calls k2 a0_0 _ _ l0_1 x27_2 t121 _ ?side1 ?side2 A16.out).mono ?_); (case side1 => repeat (first | exact (Kd.C_below HR0_1.out HB.out) | (with_reducible refine Kd.C_alloc ?_ _) | (with_reducible refine Kd.C_drewN ?_ _) | (with_reducible refine Kd.C_drew ?_))); (case side2 => exact HC0_1.out); rintro e w19 ⟨rfl, hb⟩; refine ⟨_, rfl, ?_⟩; have n0_ := Aside0.mk (blk_below (g := gb119) (o := .cells #[.int .i64 a0_0, .slice A0_1 l0_1.length c0_1] 24 (0, 0)) (by (with_reducible repeat (first | refine blk_drewN ?_ _ | refine blk_drew ?_ | refine blk_alloc ?_ _)); exact BK119.out) hb); have n1_ := Aside0.mk (below_step (by repeat (first | (with_reducible first | exact HB.out | apply below_alloc | apply pw_below_drewN | apply below_drew1 | refine below_set ?_ GE119.out) | exact HB.out)) hb); clear BK119; clear HB; have BK119 := n0_; have HB := n1_; clear n0_ n1_; (try clear hb); (try clear hb2); (try clear hk); (try clear hi)))
                  go_roundg k2
                  case measure => have := HJ1.out; have := HK2.out; omega
                  case rel => exact ⟨(wrap64 (x27_2 + 1)), (by first | rfl | (simp; done) | (simp [*]; done) | (simp [isEmpty_bne]; done)), H', ⟨by have := HJ1.out; have := HK2.out; omega⟩, ⟨by (with_reducible repeat (first | refine blk_drewN ?_ _ | refine blk_drew ?_ | refine blk_alloc ?_ _)); exact BK119.out⟩, ⟨by repeat (first | (with_reducible first | exact HB.out | apply below_alloc | apply pw_below_drewN | apply below_drew1 | refine below_set ?_ GE119.out) | exact HB.out)⟩⟩
                · rw [if_neg c17] at H
                  have c17b0 : (t121 == 0) = false := beq_eq_false_iff_ne.mpr c17
                  have c17b1 : (t121 != 0) = true := bne_iff_ne.mpr c17
                  obtain rfl := Option.some.inj H
                  have hcz20_0 : wr.cell? ⟨gb119, 0, none⟩ = some (.int .i64 a0_0) := (blk_cell BK119.out 0).trans rfl
                  have hcz20_1 : wr.cell? ⟨gb119, 1, none⟩ = some (.slice A0_1 l0_1.length c0_1) := (blk_cell BK119.out 1).trans rfl
                  have hfz20_0 := blk_frozen BK119.out 0
                  have hfz20_1 := blk_frozen BK119.out 1
                  go_wp2_with (first | ((with_reducible refine gate_callee (f := 164) rfl ?_); refine goesL_ (some 32) rfl rfl Try.func164 (by kernel_rfl) rfl #[.agg #[.int .i64 a0_0, .slice A0_1 l0_1.length c0_1], .int .i64 x27_2] rfl (by (try simp only [List.map_toArray, List.map_cons, List.map_nil]); first | done | rfl | (simp only [List.length_drop, List.length_take]; rfl)) ?_; (with_reducible refine (querylang_checkQuery.calls k2 a0_0 _ _ l0_1 x27_2 t121 _ ?side1 ?side2 A16.out).mono ?_); (case side1 => repeat (first | exact (Kd.C_below HR0_1.out HB.out) | (with_reducible refine Kd.C_alloc ?_ _) | (with_reducible refine Kd.C_drewN ?_ _) | (with_reducible refine Kd.C_drew ?_))); (case side2 => exact HC0_1.out); rintro e w21 ⟨rfl, hb⟩; refine ⟨_, rfl, ?_⟩; have n0_ := Aside0.mk (blk_below (g := gb119) (o := .cells #[.int .i64 a0_0, .slice A0_1 l0_1.length c0_1] 24 (0, 0)) (by (with_reducible repeat (first | refine blk_drewN ?_ _ | refine blk_drew ?_ | refine blk_alloc ?_ _)); exact BK119.out) hb); have n1_ := Aside0.mk (below_step (by repeat (first | (with_reducible first | exact HB.out | apply below_alloc | apply pw_below_drewN | apply below_drew1 | refine below_set ?_ GE119.out) | exact HB.out)) hb); clear BK119; clear HB; have BK119 := n0_; have HB := n1_; clear n0_ n1_; (try clear hb); (try clear hb2); (try clear hk); (try clear hi)))
                  go_ret
                  exact ⟨by first | rfl | (simp [errW_none, errW_some] <;> rfl) | (simp [*, errW_none, errW_some] <;> rfl), by repeat (first | (with_reducible first | exact HB.out | apply below_alloc | apply pw_below_drewN | apply below_drew1 | refine below_set ?_ GE119.out) | exact HB.out)⟩
              · rw [if_neg c15] at H
                have c15b0 : decide (x27_2 < (l0_1.length : Int)) = false := decide_eq_false c15
                clear c15
                obtain rfl := Option.some.inj H
                go_wp2
                go_ret
                exact ⟨by first | rfl | (simp [errW_none, errW_some] <;> rfl) | (simp [*, errW_none, errW_some] <;> rfl), by repeat (first | (with_reducible first | exact HB.out | apply below_alloc | apply pw_below_drewN | apply below_drew1 | refine below_set ?_ GE119.out) | exact HB.out)⟩

-- NOT PRINTED: function 160 (querylang_newEvaluator)

/-! ### querylang_reduce: function 92 -/
def querylang_reduce.f (a0 : Int) : Option (Int) := if (Int.tmod a0 1000003) < 0 then (some (wrap64 ((Int.tmod a0 1000003) + 1000003))) else (some (Int.tmod a0 1000003))
set_option maxHeartbeats 8000000 in
set_option maxRecDepth 100000 in
theorem querylang_reduce.calls (a0 : Int) (r : Int) (w : World) (h : querylang_reduce.f a0 = some r) :
    Calls Try.prog 92 #[.int .i64 a0] w fun e w' => e = .returned (.int .i64 r) ∧ Drawn0 w w' := by
  have H : (if (Int.tmod a0 1000003) < 0 then (some (wrap64 ((Int.tmod a0 1000003) + 1000003))) else (some (Int.tmod a0 1000003))) = some r := h
  clear h
  by_cases c2 : (Int.tmod a0 1000003) < 0
  · rw [if_pos c2] at H
    have c2b0 : decide ((Int.tmod a0 1000003) < 0) = true := decide_eq_true c2
    clear c2
    obtain rfl := Option.some.inj H
    go_enter Try.func92, Try.ntmps92
    go_wp2
    go_ret
    exact ⟨by first | rfl | (simp; done) | (simp [*]; done), by repeat (first | exact Drawn0.refl _ | apply Drawn0.step)⟩
  · rw [if_neg c2] at H
    have c2b0 : decide ((Int.tmod a0 1000003) < 0) = false := decide_eq_false c2
    clear c2
    obtain rfl := Option.some.inj H
    go_enter Try.func92, Try.ntmps92
    go_wp2
    go_ret
    exact ⟨by first | rfl | (simp; done) | (simp [*]; done), by repeat (first | exact Drawn0.refl _ | apply Drawn0.step)⟩

end Go.Proofs.Ytglckkkjfcomlaa.QQuerylangCompile
