-- Written by gen.py (this repo's wip/), which runs the kit's print.py with more arms. Lean checks it.
import Derived.Test.YtofonbfpjfabbaaQDepgraphOrderx0
import Derived.Test.YtofonbfpjfabbaaQDepgraphOrderx1
import Derived.Test.YtofonbfpjfabbaaQDepgraphOrderx2
import Derived.Test.YtofonbfpjfabbaaQDepgraphOrderx6
import Derived.Test.YtofonbfpjfabbaaQDepgraphOrderx7
import Derived.Test.YtofonbfpjfabbaaQDepgraphOrderx8
import Derived.Test.YtofonbfpjfabbaaQDepgraphOrderx10
namespace Go.Proofs.Ytofonbfpjfabbaa.QDepgraphOrder
open Go.RowKit Go.Proofs.YtofonbfpjfabbaaW.PrintWords Go.Proofs.YtofonbfpjfabbaaW.PrintLast Go.Proofs.YtofonbfpjfabbaaW.PrintMore
attribute [local go_sem] max2_int min2_int max_two min_two max_three min_three max_four min_four   -- for this text's walks alone
set_option linter.unusedVariables false
set_option linter.unusedSimpArgs false

private theorem isEmpty_bne {α : Type} [BEq α] (l : List α) : (l != []) = !l.isEmpty := by cases l <;> rfl

attribute [local go_sem high] eqA24
/-! ### glossatorref3_placeable: function 29 -/
def glossatorref3_placeable.l0 : Nat → List (S24) → List (S44) → Int → Int → Int → Int → Int → Option (Bool)
  | 0, _, _, _, _, _, _, _ => none
  | k + 1, x2, x9, x10, x11, x197000, x197001, x197002 => if x11 < x10 then (if 0 ≤ x11 then (if x11 < (x9.length : Int) then (if (((rd_T44 x9 x11).f0.f0) == x197000 && (((rd_T44 x9 x11).f0.f1) == x197001 && (((rd_T44 x9 x11).f0.f2) == x197002))) = true then ((api_QKey_23.f k x2 ((rd_T44 x9 x11).f1.f0) ((rd_T44 x9 x11).f1.f1) ((rd_T44 x9 x11).f1.f2)).bind fun t199 => (if t199 = true then (glossatorref3_placeable.l0 k x2 x9 x10 (wrap64 (x11 + 1)) x197000 x197001 x197002) else (some false))) else (glossatorref3_placeable.l0 k x2 x9 x10 (wrap64 (x11 + 1)) x197000 x197001 x197002)) else (none)) else (none)) else ((api_QKey_23.f k x2 x197000 x197001 x197002).bind fun t200 => (some (!t200)))
def glossatorref3_placeable.f (k : Nat) (l0 : List (S44)) (a1_0 : Int) (a1_1 : Int) (a1_2 : Int) (l2 : List (S24)) : Option (Bool) := glossatorref3_placeable.l0 k l2 l0 (l0.length : Int) 0 a1_0 a1_1 a1_2
theorem glossatorref3_placeable.mono_l : ∀ k, (∀ y0 y1 y2 y3 y4 y5 y6, LeO (glossatorref3_placeable.l0 k y0 y1 y2 y3 y4 y5 y6) (glossatorref3_placeable.l0 (k + 1) y0 y1 y2 y3 y4 y5 y6))
  | 0 => fun _ _ _ _ _ _ _ r h => by simp [glossatorref3_placeable.l0] at h
  | k + 1 => by
    have ih0 := glossatorref3_placeable.mono_l k
    · intro y0 y1 y2 y3 y4 y5 y6
      unfold glossatorref3_placeable.l0
      repeat' first
      | (with_reducible exact ih0 _ _ _ _ _ _ _)
      | (with_reducible exact api_QKey_23.mono _ _ _ _ _)
      | (with_reducible exact LeO.refl _)
      | (with_reducible exact LeO.none _)
      | (with_reducible refine LeO.ite ?_ ?_)
      | (with_reducible refine LeO.bind ?_ (fun _ => ?_))
      | exact ih0 _ _ _ _ _ _ _
      | exact api_QKey_23.mono _ _ _ _ _
      | exact LeO.none _
      | refine LeO.ite ?_ ?_
      | refine LeO.bind ?_ (fun _ => ?_)
theorem glossatorref3_placeable.mono : ∀ a0 a1 a2 a3 a4 k, LeO (glossatorref3_placeable.f k a0 a1 a2 a3 a4) (glossatorref3_placeable.f (k + 1) a0 a1 a2 a3 a4) := by
  intro a0 a1 a2 a3 a4 k
  have ih0 := glossatorref3_placeable.mono_l k
  unfold glossatorref3_placeable.f
  repeat' first
      | (with_reducible exact ih0 _ _ _ _ _ _ _)
      | (with_reducible exact api_QKey_23.mono _ _ _ _ _)
      | (with_reducible exact LeO.refl _)
      | (with_reducible exact LeO.none _)
      | (with_reducible refine LeO.ite ?_ ?_)
      | (with_reducible refine LeO.bind ?_ (fun _ => ?_))
      | exact ih0 _ _ _ _ _ _ _
      | exact api_QKey_23.mono _ _ _ _ _
      | exact LeO.none _
      | refine LeO.ite ?_ ?_
      | refine LeO.bind ?_ (fun _ => ?_)
set_option maxHeartbeats 8000000 in
set_option maxRecDepth 100000 in
theorem glossatorref3_placeable.calls (k : Nat) (A0 : Option Addr) (c0 : Nat) (l0 : List (S44)) (a1_0 : Int) (a1_1 : Int) (a1_2 : Int) (A2 : Option Addr) (c2 : Nat) (l2 : List (S24)) (r : Bool) (w : World) (hr0 : Kd.C k44 w A0 l0.length l0) (hc0 : l0.length ≤ c0) (hr2 : Kd.C k24 w A2 l2.length l2) (hc2 : l2.length ≤ c2) (h : glossatorref3_placeable.f k l0 a1_0 a1_1 a1_2 l2 = some r) :
    Calls Try.prog 29 #[.slice A0 l0.length c0, .agg #[.int .i64 a1_0, .int .i64 a1_1, .int .i64 a1_2], .slice A2 l2.length c2] w fun e w' => e = .returned (.bool r) ∧ Below w.heap.size w w' := by
  have hu24 := Try.underlying24
  have hu44 := Try.underlying44
  have HR0 := Aside0.mk hr0
  have HC0 := Aside0.mk hc0
  clear hr0 hc0
  have HR2 := Aside0.mk hr2
  have HC2 := Aside0.mk hc2
  clear hr2 hc2
  have HB := Aside0.mk (Below.refl w.heap.size w)
  have H : (glossatorref3_placeable.l0 k l2 l0 (l0.length : Int) 0 a1_0 a1_1 a1_2) = some r := h
  clear h
  have H' := Aside0.mk H
  clear H
  go_enter Try.func29, Try.ntmps29
  go_wp2_with (first | ((with_reducible refine gate_dst (N := 4) rfl ?_); refine box_event ?hg (N := 4) ?hd (cs := #[.int .i64 a1_0, .int .i64 a1_1, .int .i64 a1_2]) (t := 24) ?hr ?_; (case hd => rfl); (case hg => rfl); (case hr => first | (go_simp; done) | (go_simp; rfl)); intro gb196 hg w4 hbox hb; have n0_ := Aside0.mk (below_step (by repeat (first | (with_reducible first | exact HB.out | apply below_alloc | apply pw_below_drewN | apply below_drew1) | exact HB.out)) hb); have n1_ := Aside0.mk (hbox); have n2_ := Aside0.mk ((by rw [hg]; exact (below_size (by repeat (first | (with_reducible first | exact HB.out | apply below_alloc | apply pw_below_drewN | apply below_drew1) | exact HB.out))) : w.heap.size ≤ gb196)); have n3_ := Aside0.mk ((by rw [hg]; exact (below_size (by repeat (first | (with_reducible first | exact HB.out | apply below_alloc | apply pw_below_drewN | apply below_drew1) | exact HB.out))) : w.heap.size ≤ gb196)); clear HB; have HB := n0_; have BK196 := n1_; have GW196 := n2_; have GE196 := n3_; clear n0_ n1_ n2_ n3_; clear hb hbox hg))
  go_loopg [11] k (fun kq v11 w' => ∃ (x11_1 : Int), v11 = .int .i64 x11_1 ∧ Aside0 (glossatorref3_placeable.l0 kq l2 l0 (l0.length : Int) x11_1 a1_0 a1_1 a1_2 = some r) ∧ Aside0 (kq ≤ k) ∧ Aside0 (w'.heap[gb196]? = some (.cells #[.int .i64 a1_0, .int .i64 a1_1, .int .i64 a1_2] 24 (0, 0))) ∧ Aside0 (Below w.heap.size w w'))
  case atStart => exact ⟨(0), (by first | rfl | (simp; done) | (simp [*]; done) | (simp [isEmpty_bne]; done)), H', ⟨Nat.le_refl _⟩, ⟨by (with_reducible repeat (first | refine blk_drewN ?_ _ | refine blk_drew ?_ | refine blk_alloc ?_ _)); exact BK196.out⟩, ⟨by repeat (first | (with_reducible first | exact HB.out | apply below_alloc | apply pw_below_drewN | apply below_drew1 | refine below_set ?_ GE196.out) | exact HB.out)⟩⟩
  case round =>
    clear H'
    try clear c2
    try clear p2
    obtain ⟨x11_1, rfl, HA, HK1, BK196, HB⟩ := hrel
    cases gk with
    | zero => exact absurd HA.out (by simp [glossatorref3_placeable.l0])
    | succ k1 =>
      have H := HA.out
      clear HA
      simp only [glossatorref3_placeable.l0] at H
      by_cases c5 : x11_1 < (l0.length : Int)
      · rw [if_pos c5] at H
        have c5b0 : decide (x11_1 < (l0.length : Int)) = true := decide_eq_true c5
        clear c5
        by_cases c6 : 0 ≤ x11_1
        · rw [if_pos c6] at H
          have c6b0 : decide (0 ≤ x11_1) = true := decide_eq_true c6
          clear c6
          by_cases c7 : x11_1 < (l0.length : Int)
          · rw [if_pos c7] at H
            have c7b0 : decide (x11_1 < (l0.length : Int)) = true := decide_eq_true c7
            clear c7
            by_cases c8 : (((rd_T44 l0 x11_1).f0.f0) == a1_0 && (((rd_T44 l0 x11_1).f0.f1) == a1_1 && (((rd_T44 l0 x11_1).f0.f2) == a1_2))) = true
            · rw [if_pos c8] at H
              have c8b0 : (((rd_T44 l0 x11_1).f0.f0) == a1_0 && (((rd_T44 l0 x11_1).f0.f1) == a1_1 && (((rd_T44 l0 x11_1).f0.f2) == a1_2))) = true := c8
              (try (have c8b1 : decide (((rd_T44 l0 x11_1).f0.f0) = a1_0 && (((rd_T44 l0 x11_1).f0.f1) == a1_1 && (((rd_T44 l0 x11_1).f0.f2) == a1_2))) = true := by simpa using c8))
              (try (have c8b2 : (((rd_T44 l0 x11_1).f0.f0) == a1_0 && (((rd_T44 l0 x11_1).f0.f1) == a1_1 && (((rd_T44 l0 x11_1).f0.f2) == a1_2))) = true := by simpa using c8))
              clear c8
              replace H := Option.bind_eq_some_iff.mp H
              obtain ⟨t199, A90, H⟩ := H
              replace H : (if t199 = true then (glossatorref3_placeable.l0 k1 l2 l0 (l0.length : Int) (wrap64 (x11_1 + 1)) a1_0 a1_1 a1_2) else (some false)) = some r := H
              have A9 := Aside0.mk A90
              clear A90
              by_cases c10 : t199 = true
              · subst c10
                have H1 : (glossatorref3_placeable.l0 k1 l2 l0 (l0.length : Int) (wrap64 (x11_1 + 1)) a1_0 a1_1 a1_2) = some r := by rw [if_pos rfl] at H; exact H
                clear H
                have H := H1
                clear H1
                have H' := Aside0.mk H
                clear H
                have p197 : 0 ≤ (x11_1 : Int) := of_decide_eq_true (by first | (with_reducible assumption) | assumption)
                have q197 : x11_1 < (l0.length : Int) := of_decide_eq_true (by first | (with_reducible assumption) | assumption)
                obtain ⟨ad197, e197, hx197_0, hx197_1, hx197_2, hx197_3, hx197_4, hx197_5⟩ := at_T44 HR0.out x11_1 p197 q197
                cases e197
                replace hx197_0 := (HB.out.cell (World.block_lt_of_cell? w _ hx197_0)).trans hx197_0
                replace hx197_1 := (HB.out.cell (World.block_lt_of_cell? w _ hx197_1)).trans hx197_1
                replace hx197_2 := (HB.out.cell (World.block_lt_of_cell? w _ hx197_2)).trans hx197_2
                replace hx197_3 := (HB.out.cell (World.block_lt_of_cell? w _ hx197_3)).trans hx197_3
                replace hx197_4 := (HB.out.cell (World.block_lt_of_cell? w _ hx197_4)).trans hx197_4
                replace hx197_5 := (HB.out.cell (World.block_lt_of_cell? w _ hx197_5)).trans hx197_5
                replace p197 := eq_true p197
                replace q197 := eq_true q197
                go_wp2_with (first | ((with_reducible refine gate_dst (N := 8) rfl ?_); refine box_event ?hg (N := 8) ?hd (cs := #[.int .i64 0, .int .i64 0, .int .i64 0, .int .i64 0, .int .i64 0, .int .i64 0]) (t := 44) ?hr ?_; (case hd => rfl); (case hg => rfl); (case hr => first | (go_simp; done) | (go_simp; rfl)); intro gb198 hg w11 hbox hb; have n0_ := Aside0.mk (blk_below (g := gb196) (o := .cells #[.int .i64 a1_0, .int .i64 a1_1, .int .i64 a1_2] 24 (0, 0)) (by (with_reducible repeat (first | refine blk_drewN ?_ _ | refine blk_drew ?_ | refine blk_alloc ?_ _)); exact BK196.out) hb); have n1_ := Aside0.mk (below_step (by repeat (first | (with_reducible first | exact HB.out | apply below_alloc | apply pw_below_drewN | apply below_drew1 | refine below_set ?_ GE196.out) | exact HB.out)) hb); have n2_ := Aside0.mk (hbox); have n3_ := Aside0.mk ((by rw [hg]; exact (below_size (by repeat (first | (with_reducible first | exact HB.out | apply below_alloc | apply pw_below_drewN | apply below_drew1 | refine below_set ?_ GE196.out) | exact HB.out))) : w.heap.size ≤ gb198)); have n4_ := Aside0.mk ((by rw [hg]; exact (below_size (by repeat (first | (with_reducible first | exact HB.out | apply below_alloc | apply pw_below_drewN | apply below_drew1 | refine below_set ?_ GE196.out) | exact HB.out))) : w.heap.size ≤ gb198)); have n5_ := Aside0.mk ((by rw [hg]; exact Nat.ne_of_lt (blk_lt (g := gb196) (o := .cells #[.int .i64 a1_0, .int .i64 a1_1, .int .i64 a1_2] 24 (0, 0)) (by (with_reducible repeat (first | refine blk_drewN ?_ _ | refine blk_drew ?_ | refine blk_alloc ?_ _)); exact BK196.out)) : gb196 ≠ gb198)); have n6_ := Aside0.mk ((by rw [hg]; exact Nat.ne_of_gt (blk_lt (g := gb196) (o := .cells #[.int .i64 a1_0, .int .i64 a1_1, .int .i64 a1_2] 24 (0, 0)) (by (with_reducible repeat (first | refine blk_drewN ?_ _ | refine blk_drew ?_ | refine blk_alloc ?_ _)); exact BK196.out)) : gb198 ≠ gb196)); clear BK196; clear HB; have BK196 := n0_; have HB := n1_; have BK198 := n2_; have GW198 := n3_; have GE198 := n4_; have NB196_198 := n5_; have NB198_196 := n6_; clear n0_ n1_ n2_ n3_ n4_ n5_ n6_; clear hb hbox hg; have hnb12 := NB198_196.out; have hnc12 := NB196_198.out; have hcz13_0 : w11.cell? ⟨gb198, 0, none⟩ = some (.int .i64 0) := (blk_cell BK198.out 0).trans rfl; have hcz13_1 : w11.cell? ⟨gb198, 1, none⟩ = some (.int .i64 0) := (blk_cell BK198.out 1).trans rfl; have hcz13_2 : w11.cell? ⟨gb198, 2, none⟩ = some (.int .i64 0) := (blk_cell BK198.out 2).trans rfl; have hcz13_3 : w11.cell? ⟨gb198, 3, none⟩ = some (.int .i64 0) := (blk_cell BK198.out 3).trans rfl; have hcz13_4 : w11.cell? ⟨gb198, 4, none⟩ = some (.int .i64 0) := (blk_cell BK198.out 4).trans rfl; have hcz13_5 : w11.cell? ⟨gb198, 5, none⟩ = some (.int .i64 0) := (blk_cell BK198.out 5).trans rfl; have hfz13_0 := blk_frozen BK198.out 0; have hfz13_1 := blk_frozen BK198.out 1; have hfz13_2 := blk_frozen BK198.out 2; have hfz13_3 := blk_frozen BK198.out 3; have hfz13_4 := blk_frozen BK198.out 4; have hfz13_5 := blk_frozen BK198.out 5; have hcz14_0 : w11.cell? ⟨gb196, 0, none⟩ = some (.int .i64 a1_0) := (blk_cell BK196.out 0).trans rfl; have hcz14_1 : w11.cell? ⟨gb196, 1, none⟩ = some (.int .i64 a1_1) := (blk_cell BK196.out 1).trans rfl; have hcz14_2 : w11.cell? ⟨gb196, 2, none⟩ = some (.int .i64 a1_2) := (blk_cell BK196.out 2).trans rfl; have hfz14_0 := blk_frozen BK196.out 0; have hfz14_1 := blk_frozen BK196.out 1; have hfz14_2 := blk_frozen BK196.out 2) | (go_at_call 23; (with_reducible refine (api_QKey_23.calls k1 _ _ l2 ((rd_T44 l0 x11_1).f1.f0) ((rd_T44 l0 x11_1).f1.f1) ((rd_T44 l0 x11_1).f1.f2) true _ ?side1 ?side2 A9.out).mono ?_); (case side1 => exact Kd.C_below HR2.out (by repeat (first | (with_reducible first | exact HB.out | apply below_alloc | apply pw_below_drewN | apply below_drew1 | refine below_set ?_ GE196.out | refine below_set ?_ GE198.out) | exact HB.out))); (case side2 => exact HC2.out); rintro e w15 ⟨rfl, hb⟩; have n0_ := Aside0.mk (blk_below (g := gb196) (o := .cells #[.int .i64 a1_0, .int .i64 a1_1, .int .i64 a1_2] 24 (0, 0)) (by (with_reducible repeat (first | refine blk_drewN ?_ _ | refine blk_drew ?_ | refine blk_alloc ?_ _)); refine blk_far ?_ NB196_198.out _; (with_reducible repeat (first | refine blk_drewN ?_ _ | refine blk_drew ?_ | refine blk_alloc ?_ _)); refine blk_far ?_ NB196_198.out _; (with_reducible repeat (first | refine blk_drewN ?_ _ | refine blk_drew ?_ | refine blk_alloc ?_ _)); refine blk_far ?_ NB196_198.out _; (with_reducible repeat (first | refine blk_drewN ?_ _ | refine blk_drew ?_ | refine blk_alloc ?_ _)); refine blk_far ?_ NB196_198.out _; (with_reducible repeat (first | refine blk_drewN ?_ _ | refine blk_drew ?_ | refine blk_alloc ?_ _)); refine blk_far ?_ NB196_198.out _; (with_reducible repeat (first | refine blk_drewN ?_ _ | refine blk_drew ?_ | refine blk_alloc ?_ _)); refine blk_far ?_ NB196_198.out _; (with_reducible repeat (first | refine blk_drewN ?_ _ | refine blk_drew ?_ | refine blk_alloc ?_ _)); exact BK196.out) hb); have n1_ := Aside0.mk (blk_below (g := gb198) (o := .cells #[.int .i64 ((rd_T44 l0 x11_1).f0.f0), .int .i64 ((rd_T44 l0 x11_1).f0.f1), .int .i64 ((rd_T44 l0 x11_1).f0.f2), .int .i64 ((rd_T44 l0 x11_1).f1.f0), .int .i64 ((rd_T44 l0 x11_1).f1.f1), .int .i64 ((rd_T44 l0 x11_1).f1.f2)] 44 (0, 0)) (by (with_reducible repeat (first | refine blk_drewN ?_ _ | refine blk_drew ?_ | refine blk_alloc ?_ _)); refine blk_put (cs := #[.int .i64 ((rd_T44 l0 x11_1).f0.f0), .int .i64 ((rd_T44 l0 x11_1).f0.f1), .int .i64 ((rd_T44 l0 x11_1).f0.f2), .int .i64 ((rd_T44 l0 x11_1).f1.f0), .int .i64 ((rd_T44 l0 x11_1).f1.f1), .int .i64 0]) ?_ 5 _ rfl; (with_reducible repeat (first | refine blk_drewN ?_ _ | refine blk_drew ?_ | refine blk_alloc ?_ _)); refine blk_put (cs := #[.int .i64 ((rd_T44 l0 x11_1).f0.f0), .int .i64 ((rd_T44 l0 x11_1).f0.f1), .int .i64 ((rd_T44 l0 x11_1).f0.f2), .int .i64 ((rd_T44 l0 x11_1).f1.f0), .int .i64 0, .int .i64 0]) ?_ 4 _ rfl; (with_reducible repeat (first | refine blk_drewN ?_ _ | refine blk_drew ?_ | refine blk_alloc ?_ _)); refine blk_put (cs := #[.int .i64 ((rd_T44 l0 x11_1).f0.f0), .int .i64 ((rd_T44 l0 x11_1).f0.f1), .int .i64 ((rd_T44 l0 x11_1).f0.f2), .int .i64 0, .int .i64 0, .int .i64 0]) ?_ 3 _ rfl; (with_reducible repeat (first | refine blk_drewN ?_ _ | refine blk_drew ?_ | refine blk_alloc ?_ _)); refine blk_put (cs := #[.int .i64 ((rd_T44 l0 x11_1).f0.f0), .int .i64 ((rd_T44 l0 x11_1).f0.f1), .int .i64 0, .int .i64 0, .int .i64 0, .int .i64 0]) ?_ 2 _ rfl; (with_reducible repeat (first | refine blk_drewN ?_ _ | refine blk_drew ?_ | refine blk_alloc ?_ _)); refine blk_put (cs := #[.int .i64 ((rd_T44 l0 x11_1).f0.f0), .int .i64 0, .int .i64 0, .int .i64 0, .int .i64 0, .int .i64 0]) ?_ 1 _ rfl; (with_reducible repeat (first | refine blk_drewN ?_ _ | refine blk_drew ?_ | refine blk_alloc ?_ _)); refine blk_put (cs := #[.int .i64 0, .int .i64 0, .int .i64 0, .int .i64 0, .int .i64 0, .int .i64 0]) ?_ 0 _ rfl; (with_reducible repeat (first | refine blk_drewN ?_ _ | refine blk_drew ?_ | refine blk_alloc ?_ _)); exact BK198.out) hb); have n2_ := Aside0.mk (below_step (by repeat (first | (with_reducible first | exact HB.out | apply below_alloc | apply pw_below_drewN | apply below_drew1 | refine below_set ?_ GE196.out | refine below_set ?_ GE198.out) | exact HB.out)) hb); clear BK196; clear BK198; clear HB; have BK196 := n0_; have BK198 := n1_; have HB := n2_; clear n0_ n1_ n2_; (try clear hb); (try clear hb2); (try clear hk); (try clear hi)))
                go_roundg k1
                case measure => have := HK1.out; omega
                case rel => exact ⟨(wrap64 (x11_1 + 1)), (by first | rfl | (simp; done) | (simp [*]; done) | (simp [isEmpty_bne]; done)), H', ⟨by have := HK1.out; omega⟩, ⟨by (with_reducible repeat (first | refine blk_drewN ?_ _ | refine blk_drew ?_ | refine blk_alloc ?_ _)); exact BK196.out⟩, ⟨by repeat (first | (with_reducible first | exact HB.out | apply below_alloc | apply pw_below_drewN | apply below_drew1 | refine below_set ?_ GE196.out | refine below_set ?_ GE198.out) | exact HB.out)⟩⟩
              · replace c10 := Bool.eq_false_iff.mpr c10
                subst c10
                have H1 : (some false) = some r := by rw [if_neg (show ¬ (false = true) by decide)] at H; exact H
                clear H
                have H := H1
                clear H1
                obtain rfl := Option.some.inj H
                have p197 : 0 ≤ (x11_1 : Int) := of_decide_eq_true (by first | (with_reducible assumption) | assumption)
                have q197 : x11_1 < (l0.length : Int) := of_decide_eq_true (by first | (with_reducible assumption) | assumption)
                obtain ⟨ad197, e197, hx197_0, hx197_1, hx197_2, hx197_3, hx197_4, hx197_5⟩ := at_T44 HR0.out x11_1 p197 q197
                cases e197
                replace hx197_0 := (HB.out.cell (World.block_lt_of_cell? w _ hx197_0)).trans hx197_0
                replace hx197_1 := (HB.out.cell (World.block_lt_of_cell? w _ hx197_1)).trans hx197_1
                replace hx197_2 := (HB.out.cell (World.block_lt_of_cell? w _ hx197_2)).trans hx197_2
                replace hx197_3 := (HB.out.cell (World.block_lt_of_cell? w _ hx197_3)).trans hx197_3
                replace hx197_4 := (HB.out.cell (World.block_lt_of_cell? w _ hx197_4)).trans hx197_4
                replace hx197_5 := (HB.out.cell (World.block_lt_of_cell? w _ hx197_5)).trans hx197_5
                replace p197 := eq_true p197
                replace q197 := eq_true q197
                go_wp2_with (first | ((with_reducible refine gate_dst (N := 8) rfl ?_); refine box_event ?hg (N := 8) ?hd (cs := #[.int .i64 0, .int .i64 0, .int .i64 0, .int .i64 0, .int .i64 0, .int .i64 0]) (t := 44) ?hr ?_; (case hd => rfl); (case hg => rfl); (case hr => first | (go_simp; done) | (go_simp; rfl)); intro gb198 hg w16 hbox hb; have n0_ := Aside0.mk (blk_below (g := gb196) (o := .cells #[.int .i64 a1_0, .int .i64 a1_1, .int .i64 a1_2] 24 (0, 0)) (by (with_reducible repeat (first | refine blk_drewN ?_ _ | refine blk_drew ?_ | refine blk_alloc ?_ _)); exact BK196.out) hb); have n1_ := Aside0.mk (below_step (by repeat (first | (with_reducible first | exact HB.out | apply below_alloc | apply pw_below_drewN | apply below_drew1 | refine below_set ?_ GE196.out) | exact HB.out)) hb); have n2_ := Aside0.mk (hbox); have n3_ := Aside0.mk ((by rw [hg]; exact (below_size (by repeat (first | (with_reducible first | exact HB.out | apply below_alloc | apply pw_below_drewN | apply below_drew1 | refine below_set ?_ GE196.out) | exact HB.out))) : w.heap.size ≤ gb198)); have n4_ := Aside0.mk ((by rw [hg]; exact (below_size (by repeat (first | (with_reducible first | exact HB.out | apply below_alloc | apply pw_below_drewN | apply below_drew1 | refine below_set ?_ GE196.out) | exact HB.out))) : w.heap.size ≤ gb198)); have n5_ := Aside0.mk ((by rw [hg]; exact Nat.ne_of_lt (blk_lt (g := gb196) (o := .cells #[.int .i64 a1_0, .int .i64 a1_1, .int .i64 a1_2] 24 (0, 0)) (by (with_reducible repeat (first | refine blk_drewN ?_ _ | refine blk_drew ?_ | refine blk_alloc ?_ _)); exact BK196.out)) : gb196 ≠ gb198)); have n6_ := Aside0.mk ((by rw [hg]; exact Nat.ne_of_gt (blk_lt (g := gb196) (o := .cells #[.int .i64 a1_0, .int .i64 a1_1, .int .i64 a1_2] 24 (0, 0)) (by (with_reducible repeat (first | refine blk_drewN ?_ _ | refine blk_drew ?_ | refine blk_alloc ?_ _)); exact BK196.out)) : gb198 ≠ gb196)); clear BK196; clear HB; have BK196 := n0_; have HB := n1_; have BK198 := n2_; have GW198 := n3_; have GE198 := n4_; have NB196_198 := n5_; have NB198_196 := n6_; clear n0_ n1_ n2_ n3_ n4_ n5_ n6_; clear hb hbox hg; have hnb17 := NB198_196.out; have hnc17 := NB196_198.out; have hcz18_0 : w16.cell? ⟨gb198, 0, none⟩ = some (.int .i64 0) := (blk_cell BK198.out 0).trans rfl; have hcz18_1 : w16.cell? ⟨gb198, 1, none⟩ = some (.int .i64 0) := (blk_cell BK198.out 1).trans rfl; have hcz18_2 : w16.cell? ⟨gb198, 2, none⟩ = some (.int .i64 0) := (blk_cell BK198.out 2).trans rfl; have hcz18_3 : w16.cell? ⟨gb198, 3, none⟩ = some (.int .i64 0) := (blk_cell BK198.out 3).trans rfl; have hcz18_4 : w16.cell? ⟨gb198, 4, none⟩ = some (.int .i64 0) := (blk_cell BK198.out 4).trans rfl; have hcz18_5 : w16.cell? ⟨gb198, 5, none⟩ = some (.int .i64 0) := (blk_cell BK198.out 5).trans rfl; have hfz18_0 := blk_frozen BK198.out 0; have hfz18_1 := blk_frozen BK198.out 1; have hfz18_2 := blk_frozen BK198.out 2; have hfz18_3 := blk_frozen BK198.out 3; have hfz18_4 := blk_frozen BK198.out 4; have hfz18_5 := blk_frozen BK198.out 5; have hcz19_0 : w16.cell? ⟨gb196, 0, none⟩ = some (.int .i64 a1_0) := (blk_cell BK196.out 0).trans rfl; have hcz19_1 : w16.cell? ⟨gb196, 1, none⟩ = some (.int .i64 a1_1) := (blk_cell BK196.out 1).trans rfl; have hcz19_2 : w16.cell? ⟨gb196, 2, none⟩ = some (.int .i64 a1_2) := (blk_cell BK196.out 2).trans rfl; have hfz19_0 := blk_frozen BK196.out 0; have hfz19_1 := blk_frozen BK196.out 1; have hfz19_2 := blk_frozen BK196.out 2) | (go_at_call 23; (with_reducible refine (api_QKey_23.calls k1 _ _ l2 ((rd_T44 l0 x11_1).f1.f0) ((rd_T44 l0 x11_1).f1.f1) ((rd_T44 l0 x11_1).f1.f2) false _ ?side1 ?side2 A9.out).mono ?_); (case side1 => exact Kd.C_below HR2.out (by repeat (first | (with_reducible first | exact HB.out | apply below_alloc | apply pw_below_drewN | apply below_drew1 | refine below_set ?_ GE196.out | refine below_set ?_ GE198.out) | exact HB.out))); (case side2 => exact HC2.out); rintro e w20 ⟨rfl, hb⟩; have n0_ := Aside0.mk (blk_below (g := gb196) (o := .cells #[.int .i64 a1_0, .int .i64 a1_1, .int .i64 a1_2] 24 (0, 0)) (by (with_reducible repeat (first | refine blk_drewN ?_ _ | refine blk_drew ?_ | refine blk_alloc ?_ _)); refine blk_far ?_ NB196_198.out _; (with_reducible repeat (first | refine blk_drewN ?_ _ | refine blk_drew ?_ | refine blk_alloc ?_ _)); refine blk_far ?_ NB196_198.out _; (with_reducible repeat (first | refine blk_drewN ?_ _ | refine blk_drew ?_ | refine blk_alloc ?_ _)); refine blk_far ?_ NB196_198.out _; (with_reducible repeat (first | refine blk_drewN ?_ _ | refine blk_drew ?_ | refine blk_alloc ?_ _)); refine blk_far ?_ NB196_198.out _; (with_reducible repeat (first | refine blk_drewN ?_ _ | refine blk_drew ?_ | refine blk_alloc ?_ _)); refine blk_far ?_ NB196_198.out _; (with_reducible repeat (first | refine blk_drewN ?_ _ | refine blk_drew ?_ | refine blk_alloc ?_ _)); refine blk_far ?_ NB196_198.out _; (with_reducible repeat (first | refine blk_drewN ?_ _ | refine blk_drew ?_ | refine blk_alloc ?_ _)); exact BK196.out) hb); have n1_ := Aside0.mk (blk_below (g := gb198) (o := .cells #[.int .i64 ((rd_T44 l0 x11_1).f0.f0), .int .i64 ((rd_T44 l0 x11_1).f0.f1), .int .i64 ((rd_T44 l0 x11_1).f0.f2), .int .i64 ((rd_T44 l0 x11_1).f1.f0), .int .i64 ((rd_T44 l0 x11_1).f1.f1), .int .i64 ((rd_T44 l0 x11_1).f1.f2)] 44 (0, 0)) (by (with_reducible repeat (first | refine blk_drewN ?_ _ | refine blk_drew ?_ | refine blk_alloc ?_ _)); refine blk_put (cs := #[.int .i64 ((rd_T44 l0 x11_1).f0.f0), .int .i64 ((rd_T44 l0 x11_1).f0.f1), .int .i64 ((rd_T44 l0 x11_1).f0.f2), .int .i64 ((rd_T44 l0 x11_1).f1.f0), .int .i64 ((rd_T44 l0 x11_1).f1.f1), .int .i64 0]) ?_ 5 _ rfl; (with_reducible repeat (first | refine blk_drewN ?_ _ | refine blk_drew ?_ | refine blk_alloc ?_ _)); refine blk_put (cs := #[.int .i64 ((rd_T44 l0 x11_1).f0.f0), .int .i64 ((rd_T44 l0 x11_1).f0.f1), .int .i64 ((rd_T44 l0 x11_1).f0.f2), .int .i64 ((rd_T44 l0 x11_1).f1.f0), .int .i64 0, .int .i64 0]) ?_ 4 _ rfl; (with_reducible repeat (first | refine blk_drewN ?_ _ | refine blk_drew ?_ | refine blk_alloc ?_ _)); refine blk_put (cs := #[.int .i64 ((rd_T44 l0 x11_1).f0.f0), .int .i64 ((rd_T44 l0 x11_1).f0.f1), .int .i64 ((rd_T44 l0 x11_1).f0.f2), .int .i64 0, .int .i64 0, .int .i64 0]) ?_ 3 _ rfl; (with_reducible repeat (first | refine blk_drewN ?_ _ | refine blk_drew ?_ | refine blk_alloc ?_ _)); refine blk_put (cs := #[.int .i64 ((rd_T44 l0 x11_1).f0.f0), .int .i64 ((rd_T44 l0 x11_1).f0.f1), .int .i64 0, .int .i64 0, .int .i64 0, .int .i64 0]) ?_ 2 _ rfl; (with_reducible repeat (first | refine blk_drewN ?_ _ | refine blk_drew ?_ | refine blk_alloc ?_ _)); refine blk_put (cs := #[.int .i64 ((rd_T44 l0 x11_1).f0.f0), .int .i64 0, .int .i64 0, .int .i64 0, .int .i64 0, .int .i64 0]) ?_ 1 _ rfl; (with_reducible repeat (first | refine blk_drewN ?_ _ | refine blk_drew ?_ | refine blk_alloc ?_ _)); refine blk_put (cs := #[.int .i64 0, .int .i64 0, .int .i64 0, .int .i64 0, .int .i64 0, .int .i64 0]) ?_ 0 _ rfl; (with_reducible repeat (first | refine blk_drewN ?_ _ | refine blk_drew ?_ | refine blk_alloc ?_ _)); exact BK198.out) hb); have n2_ := Aside0.mk (below_step (by repeat (first | (with_reducible first | exact HB.out | apply below_alloc | apply pw_below_drewN | apply below_drew1 | refine below_set ?_ GE196.out | refine below_set ?_ GE198.out) | exact HB.out)) hb); clear BK196; clear BK198; clear HB; have BK196 := n0_; have BK198 := n1_; have HB := n2_; clear n0_ n1_ n2_; (try clear hb); (try clear hb2); (try clear hk); (try clear hi)))
                go_ret
                exact ⟨by first | rfl | (simp [errW_none, errW_some] <;> rfl) | (simp [*, errW_none, errW_some] <;> rfl), by repeat (first | (with_reducible first | exact HB.out | apply below_alloc | apply pw_below_drewN | apply below_drew1 | refine below_set ?_ GE196.out | refine below_set ?_ GE198.out) | exact HB.out)⟩
            · rw [if_neg c8] at H
              have c8b0 : (((rd_T44 l0 x11_1).f0.f0) == a1_0 && (((rd_T44 l0 x11_1).f0.f1) == a1_1 && (((rd_T44 l0 x11_1).f0.f2) == a1_2))) = false := by simpa using c8
              (try (have c8b1 : decide (((rd_T44 l0 x11_1).f0.f0) = a1_0 && (((rd_T44 l0 x11_1).f0.f1) == a1_1 && (((rd_T44 l0 x11_1).f0.f2) == a1_2))) = false := by simpa using c8))
              (try (have c8b2 : (((rd_T44 l0 x11_1).f0.f0) == a1_0 && (((rd_T44 l0 x11_1).f0.f1) == a1_1 && (((rd_T44 l0 x11_1).f0.f2) == a1_2))) = false := by simpa using c8))
              (try (have c8b3 : ¬ (((rd_T44 l0 x11_1).f0.f0) = a1_0 && (((rd_T44 l0 x11_1).f0.f1) == a1_1 && (((rd_T44 l0 x11_1).f0.f2) == a1_2))) := by simpa using c8))
              clear c8
              have H' := Aside0.mk H
              clear H
              have p197 : 0 ≤ (x11_1 : Int) := of_decide_eq_true (by first | (with_reducible assumption) | assumption)
              have q197 : x11_1 < (l0.length : Int) := of_decide_eq_true (by first | (with_reducible assumption) | assumption)
              obtain ⟨ad197, e197, hx197_0, hx197_1, hx197_2, hx197_3, hx197_4, hx197_5⟩ := at_T44 HR0.out x11_1 p197 q197
              cases e197
              replace hx197_0 := (HB.out.cell (World.block_lt_of_cell? w _ hx197_0)).trans hx197_0
              replace hx197_1 := (HB.out.cell (World.block_lt_of_cell? w _ hx197_1)).trans hx197_1
              replace hx197_2 := (HB.out.cell (World.block_lt_of_cell? w _ hx197_2)).trans hx197_2
              replace hx197_3 := (HB.out.cell (World.block_lt_of_cell? w _ hx197_3)).trans hx197_3
              replace hx197_4 := (HB.out.cell (World.block_lt_of_cell? w _ hx197_4)).trans hx197_4
              replace hx197_5 := (HB.out.cell (World.block_lt_of_cell? w _ hx197_5)).trans hx197_5
              replace p197 := eq_true p197
              replace q197 := eq_true q197
              go_wp2_with (first | ((with_reducible refine gate_dst (N := 8) rfl ?_); refine box_event ?hg (N := 8) ?hd (cs := #[.int .i64 0, .int .i64 0, .int .i64 0, .int .i64 0, .int .i64 0, .int .i64 0]) (t := 44) ?hr ?_; (case hd => rfl); (case hg => rfl); (case hr => first | (go_simp; done) | (go_simp; rfl)); intro gb198 hg w21 hbox hb; have n0_ := Aside0.mk (blk_below (g := gb196) (o := .cells #[.int .i64 a1_0, .int .i64 a1_1, .int .i64 a1_2] 24 (0, 0)) (by (with_reducible repeat (first | refine blk_drewN ?_ _ | refine blk_drew ?_ | refine blk_alloc ?_ _)); exact BK196.out) hb); have n1_ := Aside0.mk (below_step (by repeat (first | (with_reducible first | exact HB.out | apply below_alloc | apply pw_below_drewN | apply below_drew1 | refine below_set ?_ GE196.out) | exact HB.out)) hb); have n2_ := Aside0.mk (hbox); have n3_ := Aside0.mk ((by rw [hg]; exact (below_size (by repeat (first | (with_reducible first | exact HB.out | apply below_alloc | apply pw_below_drewN | apply below_drew1 | refine below_set ?_ GE196.out) | exact HB.out))) : w.heap.size ≤ gb198)); have n4_ := Aside0.mk ((by rw [hg]; exact (below_size (by repeat (first | (with_reducible first | exact HB.out | apply below_alloc | apply pw_below_drewN | apply below_drew1 | refine below_set ?_ GE196.out) | exact HB.out))) : w.heap.size ≤ gb198)); have n5_ := Aside0.mk ((by rw [hg]; exact Nat.ne_of_lt (blk_lt (g := gb196) (o := .cells #[.int .i64 a1_0, .int .i64 a1_1, .int .i64 a1_2] 24 (0, 0)) (by (with_reducible repeat (first | refine blk_drewN ?_ _ | refine blk_drew ?_ | refine blk_alloc ?_ _)); exact BK196.out)) : gb196 ≠ gb198)); have n6_ := Aside0.mk ((by rw [hg]; exact Nat.ne_of_gt (blk_lt (g := gb196) (o := .cells #[.int .i64 a1_0, .int .i64 a1_1, .int .i64 a1_2] 24 (0, 0)) (by (with_reducible repeat (first | refine blk_drewN ?_ _ | refine blk_drew ?_ | refine blk_alloc ?_ _)); exact BK196.out)) : gb198 ≠ gb196)); clear BK196; clear HB; have BK196 := n0_; have HB := n1_; have BK198 := n2_; have GW198 := n3_; have GE198 := n4_; have NB196_198 := n5_; have NB198_196 := n6_; clear n0_ n1_ n2_ n3_ n4_ n5_ n6_; clear hb hbox hg; have hnb22 := NB198_196.out; have hnc22 := NB196_198.out; have hcz23_0 : w21.cell? ⟨gb198, 0, none⟩ = some (.int .i64 0) := (blk_cell BK198.out 0).trans rfl; have hcz23_1 : w21.cell? ⟨gb198, 1, none⟩ = some (.int .i64 0) := (blk_cell BK198.out 1).trans rfl; have hcz23_2 : w21.cell? ⟨gb198, 2, none⟩ = some (.int .i64 0) := (blk_cell BK198.out 2).trans rfl; have hcz23_3 : w21.cell? ⟨gb198, 3, none⟩ = some (.int .i64 0) := (blk_cell BK198.out 3).trans rfl; have hcz23_4 : w21.cell? ⟨gb198, 4, none⟩ = some (.int .i64 0) := (blk_cell BK198.out 4).trans rfl; have hcz23_5 : w21.cell? ⟨gb198, 5, none⟩ = some (.int .i64 0) := (blk_cell BK198.out 5).trans rfl; have hfz23_0 := blk_frozen BK198.out 0; have hfz23_1 := blk_frozen BK198.out 1; have hfz23_2 := blk_frozen BK198.out 2; have hfz23_3 := blk_frozen BK198.out 3; have hfz23_4 := blk_frozen BK198.out 4; have hfz23_5 := blk_frozen BK198.out 5; have hcz24_0 : w21.cell? ⟨gb196, 0, none⟩ = some (.int .i64 a1_0) := (blk_cell BK196.out 0).trans rfl; have hcz24_1 : w21.cell? ⟨gb196, 1, none⟩ = some (.int .i64 a1_1) := (blk_cell BK196.out 1).trans rfl; have hcz24_2 : w21.cell? ⟨gb196, 2, none⟩ = some (.int .i64 a1_2) := (blk_cell BK196.out 2).trans rfl; have hfz24_0 := blk_frozen BK196.out 0; have hfz24_1 := blk_frozen BK196.out 1; have hfz24_2 := blk_frozen BK196.out 2))
              go_roundg k1
              case measure => have := HK1.out; omega
              case rel => exact ⟨(wrap64 (x11_1 + 1)), (by first | rfl | (simp; done) | (simp [*]; done) | (simp [isEmpty_bne]; done)), H', ⟨by have := HK1.out; omega⟩, ⟨by (with_reducible repeat (first | refine blk_drewN ?_ _ | refine blk_drew ?_ | refine blk_alloc ?_ _)); refine blk_far ?_ NB196_198.out _; (with_reducible repeat (first | refine blk_drewN ?_ _ | refine blk_drew ?_ | refine blk_alloc ?_ _)); refine blk_far ?_ NB196_198.out _; (with_reducible repeat (first | refine blk_drewN ?_ _ | refine blk_drew ?_ | refine blk_alloc ?_ _)); refine blk_far ?_ NB196_198.out _; (with_reducible repeat (first | refine blk_drewN ?_ _ | refine blk_drew ?_ | refine blk_alloc ?_ _)); refine blk_far ?_ NB196_198.out _; (with_reducible repeat (first | refine blk_drewN ?_ _ | refine blk_drew ?_ | refine blk_alloc ?_ _)); refine blk_far ?_ NB196_198.out _; (with_reducible repeat (first | refine blk_drewN ?_ _ | refine blk_drew ?_ | refine blk_alloc ?_ _)); refine blk_far ?_ NB196_198.out _; (with_reducible repeat (first | refine blk_drewN ?_ _ | refine blk_drew ?_ | refine blk_alloc ?_ _)); exact BK196.out⟩, ⟨by repeat (first | (with_reducible first | exact HB.out | apply below_alloc | apply pw_below_drewN | apply below_drew1 | refine below_set ?_ GE196.out | refine below_set ?_ GE198.out) | exact HB.out)⟩⟩
          · rw [if_neg c7] at H
            exact absurd H (by simp)
        · rw [if_neg c6] at H
          exact absurd H (by simp)
      · rw [if_neg c5] at H
        have c5b0 : decide (x11_1 < (l0.length : Int)) = false := decide_eq_false c5
        clear c5
        replace H := Option.bind_eq_some_iff.mp H
        obtain ⟨t200, A250, H⟩ := H
        replace H : (some (!t200)) = some r := H
        have A25 := Aside0.mk A250
        clear A250
        obtain rfl := Option.some.inj H
        have hcz26_0 : wr.cell? ⟨gb196, 0, none⟩ = some (.int .i64 a1_0) := (blk_cell BK196.out 0).trans rfl
        have hcz26_1 : wr.cell? ⟨gb196, 1, none⟩ = some (.int .i64 a1_1) := (blk_cell BK196.out 1).trans rfl
        have hcz26_2 : wr.cell? ⟨gb196, 2, none⟩ = some (.int .i64 a1_2) := (blk_cell BK196.out 2).trans rfl
        have hfz26_0 := blk_frozen BK196.out 0
        have hfz26_1 := blk_frozen BK196.out 1
        have hfz26_2 := blk_frozen BK196.out 2
        go_wp2_with (first | ((with_reducible refine gate_callee (f := 23) rfl ?_); refine goesL_ (some 29) rfl rfl Try.func23 (by kernel_rfl) rfl #[.slice A2 l2.length c2, .agg #[.int .i64 a1_0, .int .i64 a1_1, .int .i64 a1_2]] rfl (by (try simp only [List.map_toArray, List.map_cons, List.map_nil]); first | done | rfl | (simp only [List.length_drop, List.length_take]; rfl)) ?_; (with_reducible refine (api_QKey_23.calls k1 _ _ l2 a1_0 a1_1 a1_2 t200 _ ?side1 ?side2 A25.out).mono ?_); (case side1 => repeat (first | exact (Kd.C_below HR2.out HB.out) | (with_reducible refine Kd.C_alloc ?_ _) | (with_reducible refine Kd.C_drewN ?_ _) | (with_reducible refine Kd.C_drew ?_))); (case side2 => exact HC2.out); rintro e w27 ⟨rfl, hb⟩; refine ⟨_, rfl, ?_⟩; have n0_ := Aside0.mk (blk_below (g := gb196) (o := .cells #[.int .i64 a1_0, .int .i64 a1_1, .int .i64 a1_2] 24 (0, 0)) (by (with_reducible repeat (first | refine blk_drewN ?_ _ | refine blk_drew ?_ | refine blk_alloc ?_ _)); exact BK196.out) hb); have n1_ := Aside0.mk (below_step (by repeat (first | (with_reducible first | exact HB.out | apply below_alloc | apply pw_below_drewN | apply below_drew1 | refine below_set ?_ GE196.out) | exact HB.out)) hb); clear BK196; clear HB; have BK196 := n0_; have HB := n1_; clear n0_ n1_; (try clear hb); (try clear hb2); (try clear hk); (try clear hi)))
        go_ret
        exact ⟨by first | rfl | (simp [errW_none, errW_some] <;> rfl) | (simp [*, errW_none, errW_some] <;> rfl), by repeat (first | (with_reducible first | exact HB.out | apply below_alloc | apply pw_below_drewN | apply below_drew1 | refine below_set ?_ GE196.out) | exact HB.out)⟩

/-! ### glossatorref3_Order: function 15 -/
mutual
def glossatorref3_Order.l0 : Nat → List (S44) → List (S24) → List (S24) → Int → Int → Option ((List (S24)))
  | 0, _, _, _, _, _ => none
  | k + 1, x0, x3, x4, x10, x11 => if x11 < x10 then (glossatorref3_Order.l1 k x0 x3 x4 x10 x11 x3 (x3.length : Int) 0) else (some x4)
def glossatorref3_Order.l1 : Nat → List (S44) → List (S24) → List (S24) → Int → Int → List (S24) → Int → Int → Option ((List (S24)))
  | 0, _, _, _, _, _, _, _, _ => none
  | k + 1, x0, x3, x4, x10, x11, x13, x14, x15 => if x15 < x14 then (if 0 ≤ x15 then (if x15 < (x13.length : Int) then ((glossatorref3_placeable.f k x0 ((rd_T24 x13 x15).f0) ((rd_T24 x13 x15).f1) ((rd_T24 x13 x15).f2) x4).bind fun t206 => (if t206 = true then (if x4.length < 5864062014805 then (glossatorref3_Order.l0 k x0 x3 (x4 ++ [(⟨(rd_T24 x13 x15).f0, (rd_T24 x13 x15).f1, (rd_T24 x13 x15).f2⟩ : S24)]) x10 (wrap64 (x11 + 1))) else (none)) else (glossatorref3_Order.l1 k x0 x3 x4 x10 x11 x13 x14 (wrap64 (x15 + 1))))) else (none)) else (none)) else (glossatorref3_Order.l0 k x0 x3 x4 x10 (wrap64 (x11 + 1)))
end
def glossatorref3_Order.f (k : Nat) (l0 : List (S44)) : Option ((List (S24))) := (glossatorref3_Nodes.f k l0).bind fun t201 => (glossatorref3_Order.l0 k l0 t201 ([] : List (S24)) (t201.length : Int) 0)
theorem glossatorref3_Order.mono_l : ∀ k, (∀ y0 y1 y2 y3 y4, LeO (glossatorref3_Order.l0 k y0 y1 y2 y3 y4) (glossatorref3_Order.l0 (k + 1) y0 y1 y2 y3 y4)) ∧ (∀ y0 y1 y2 y3 y4 y5 y6 y7, LeO (glossatorref3_Order.l1 k y0 y1 y2 y3 y4 y5 y6 y7) (glossatorref3_Order.l1 (k + 1) y0 y1 y2 y3 y4 y5 y6 y7))
  | 0 => ⟨fun _ _ _ _ _ r h => by simp [glossatorref3_Order.l0] at h, fun _ _ _ _ _ _ _ _ r h => by simp [glossatorref3_Order.l1] at h⟩
  | k + 1 => by
    obtain ⟨ih0, ih1⟩ := glossatorref3_Order.mono_l k
    refine ⟨?_, ?_⟩
    · intro y0 y1 y2 y3 y4
      unfold glossatorref3_Order.l0
      repeat' first
      | (with_reducible exact ih0 _ _ _ _ _)
      | (with_reducible exact ih1 _ _ _ _ _ _ _ _)
      | (with_reducible exact glossatorref3_Nodes.mono _ _)
      | (with_reducible exact glossatorref3_placeable.mono _ _ _ _ _ _)
      | (with_reducible exact LeO.refl _)
      | (with_reducible exact LeO.none _)
      | (with_reducible refine LeO.ite ?_ ?_)
      | (with_reducible refine LeO.bind ?_ (fun _ => ?_))
      | exact ih0 _ _ _ _ _
      | exact ih1 _ _ _ _ _ _ _ _
      | exact glossatorref3_Nodes.mono _ _
      | exact glossatorref3_placeable.mono _ _ _ _ _ _
      | exact LeO.none _
      | refine LeO.ite ?_ ?_
      | refine LeO.bind ?_ (fun _ => ?_)
    · intro y0 y1 y2 y3 y4 y5 y6 y7
      unfold glossatorref3_Order.l1
      repeat' first
      | (with_reducible exact ih0 _ _ _ _ _)
      | (with_reducible exact ih1 _ _ _ _ _ _ _ _)
      | (with_reducible exact glossatorref3_Nodes.mono _ _)
      | (with_reducible exact glossatorref3_placeable.mono _ _ _ _ _ _)
      | (with_reducible exact LeO.refl _)
      | (with_reducible exact LeO.none _)
      | (with_reducible refine LeO.ite ?_ ?_)
      | (with_reducible refine LeO.bind ?_ (fun _ => ?_))
      | exact ih0 _ _ _ _ _
      | exact ih1 _ _ _ _ _ _ _ _
      | exact glossatorref3_Nodes.mono _ _
      | exact glossatorref3_placeable.mono _ _ _ _ _ _
      | exact LeO.none _
      | refine LeO.ite ?_ ?_
      | refine LeO.bind ?_ (fun _ => ?_)
theorem glossatorref3_Order.mono : ∀ a0 k, LeO (glossatorref3_Order.f k a0) (glossatorref3_Order.f (k + 1) a0) := by
  intro a0 k
  obtain ⟨ih0, ih1⟩ := glossatorref3_Order.mono_l k
  unfold glossatorref3_Order.f
  repeat' first
      | (with_reducible exact ih0 _ _ _ _ _)
      | (with_reducible exact ih1 _ _ _ _ _ _ _ _)
      | (with_reducible exact glossatorref3_Nodes.mono _ _)
      | (with_reducible exact glossatorref3_placeable.mono _ _ _ _ _ _)
      | (with_reducible exact LeO.refl _)
      | (with_reducible exact LeO.none _)
      | (with_reducible refine LeO.ite ?_ ?_)
      | (with_reducible refine LeO.bind ?_ (fun _ => ?_))
      | exact ih0 _ _ _ _ _
      | exact ih1 _ _ _ _ _ _ _ _
      | exact glossatorref3_Nodes.mono _ _
      | exact glossatorref3_placeable.mono _ _ _ _ _ _
      | exact LeO.none _
      | refine LeO.ite ?_ ?_
      | refine LeO.bind ?_ (fun _ => ?_)
set_option maxHeartbeats 8000000 in
set_option maxRecDepth 100000 in
theorem glossatorref3_Order.calls (k : Nat) (A0 : Option Addr) (c0 : Nat) (l0 : List (S44)) (r : List (S24)) (w : World) (hr0 : Kd.C k44 w A0 l0.length l0) (hc0 : l0.length ≤ c0) (h : glossatorref3_Order.f k l0 = some r) :
    Calls Try.prog 15 #[.slice A0 l0.length c0] w fun e w' => ∃ v0_ : Value, e = .returned (v0_) ∧ Kd.R k24 24 w' w.heap.size (fun _ => True) v0_ r ∧ Below w.heap.size w w' := by
  have hu24 := Try.underlying24
  have HR0 := Aside0.mk hr0
  have HC0 := Aside0.mk hc0
  clear hr0 hc0
  have HB := Aside0.mk (Below.refl w.heap.size w)
  have H : ((glossatorref3_Nodes.f k l0).bind fun t201 => (glossatorref3_Order.l0 k l0 t201 ([] : List (S24)) (t201.length : Int) 0)) = some r := h
  clear h
  replace H := Option.bind_eq_some_iff.mp H
  obtain ⟨t201, A20, H⟩ := H
  replace H : (glossatorref3_Order.l0 k l0 t201 ([] : List (S24)) (t201.length : Int) 0) = some r := H
  have A2 := Aside0.mk A20
  clear A20
  have H' := Aside0.mk H
  clear H
  go_enter Try.func15, Try.ntmps15
  go_wp2_with (first | ((with_reducible refine gate_callee (f := 28) rfl ?_); refine goesL_ (some 8) rfl rfl Try.func28 (by kernel_rfl) rfl #[.slice A0 l0.length c0] rfl (by (try simp only [List.map_toArray, List.map_cons, List.map_nil]); first | done | rfl | (simp only [List.length_drop, List.length_take]; rfl)) ?_; (with_reducible refine (glossatorref3_Nodes.calls k _ _ l0 t201 _ ?side1 ?side2 A2.out).mono ?_); (case side1 => repeat (first | exact HR0.out | (with_reducible refine Kd.C_alloc ?_ _) | (with_reducible refine Kd.C_drewN ?_ _) | (with_reducible refine Kd.C_drew ?_))); (case side2 => exact HC0.out); rintro e w3 ⟨v202, rfl, ho0, hb⟩; refine ⟨_, rfl, ?_⟩; have n0_ := Aside0.mk (Kd.R_lower ho0 (below_size (by repeat (first | (with_reducible first | exact HB.out | apply below_alloc | apply pw_below_drewN | apply below_drew1) | exact HB.out)))); have n1_ := Aside0.mk (below_step (by repeat (first | (with_reducible first | exact HB.out | apply below_alloc | apply pw_below_drewN | apply below_drew1) | exact HB.out)) hb); clear HB; have HO203 := n0_; have HB := n1_; clear n0_ n1_; (try clear hb); (try clear hb2); (try clear hk); (try clear hi); (try clear ho0); obtain ⟨Ao4, co4, eo4⟩ := Kd.R_slice HO203.out; subst eo4))
  go_loopg [4, 11] k (fun kq v4 v11 w' => ∃ (x4_1 : List (S24)) (x11_1 : Int), v11 = .int .i64 x11_1 ∧ Aside0 (glossatorref3_Order.l0 kq l0 t201 x4_1 (t201.length : Int) x11_1 = some r) ∧ Aside0 (kq ≤ k) ∧ Aside0 (Kd.R k24 24 w' w.heap.size (fun k_ => some k_ ≠ (v4 : Value).ownBlock) (.slice Ao4 t201.length co4) t201) ∧ Aside0 (Kd.R k24 24 w' w.heap.size (fun k_ => some k_ ≠ ((.slice Ao4 t201.length co4) : Value).ownBlock) v4 x4_1) ∧ Aside0 (Below w.heap.size w w'))
  case atStart => exact ⟨(([] : List (S24))), (0), (by first | rfl | (simp; done) | (simp [*]; done) | (simp [isEmpty_bne]; done)), H', ⟨Nat.le_refl _⟩, ⟨by (with_reducible repeat (first | apply Kd.R_alloc | apply Kd.R_drewN | apply Kd.R_drew)); exact Kd.R_mono HO203.out (fun _ hk => (by simp [Value.ownBlock]))⟩, ⟨by first | exact Kd.R_nil _ _ _ _ _ | exact Kd.N_nil _ _ _ _ _ | exact Kd.V_nil _ _ _ _ _ | exact Kd.Q_nil _ _ _ _ _ | exact Kd.S_nil _ _ _ _ _⟩, ⟨by repeat (first | (with_reducible first | exact HB.out | apply below_alloc | apply pw_below_drewN | apply below_drew1) | exact HB.out)⟩⟩
  case round =>
    clear H'
    try clear c1
    try clear c2
    try clear p2
    obtain ⟨x4_1, x11_1, rfl, HA, HK1, HO_3, HO_4, HB⟩ := hrel
    cases gk with
    | zero => exact absurd HA.out (by simp [glossatorref3_Order.l0])
    | succ k1 =>
      have H := HA.out
      clear HA
      simp only [glossatorref3_Order.l0] at H
      by_cases c5 : x11_1 < (t201.length : Int)
      · rw [if_pos c5] at H
        have c5b0 : decide (x11_1 < (t201.length : Int)) = true := decide_eq_true c5
        clear c5
        have H' := Aside0.mk H
        clear H
        go_wp2
        go_loopg [4, 15] k1 (fun kq v4 v15 w' => ∃ (x4_2 : List (S24)) (x15_2 : Int), v15 = .int .i64 x15_2 ∧ Aside0 (glossatorref3_Order.l1 kq l0 t201 x4_2 (t201.length : Int) x11_1 t201 (t201.length : Int) x15_2 = some r) ∧ Aside0 (kq ≤ k1) ∧ Aside0 (Kd.R k24 24 w' w.heap.size (fun k_ => some k_ ≠ (v4 : Value).ownBlock) (.slice Ao4 t201.length co4) t201) ∧ Aside0 (Kd.R k24 24 w' w.heap.size (fun k_ => some k_ ≠ ((.slice Ao4 t201.length co4) : Value).ownBlock ∧ some k_ ≠ ((.slice Ao4 t201.length co4) : Value).ownBlock) v4 x4_2) ∧ Aside0 (Kd.R k24 24 w' w.heap.size (fun k_ => some k_ ≠ (v4 : Value).ownBlock) (.slice Ao4 t201.length co4) t201) ∧ Aside0 (Below w.heap.size w w'))
        case atStart => exact ⟨(x4_1), (0), (by first | rfl | (simp; done) | (simp [*]; done) | (simp [isEmpty_bne]; done)), H', ⟨Nat.le_refl _⟩, ⟨by (with_reducible repeat (first | apply Kd.R_alloc | apply Kd.R_drewN | apply Kd.R_drew)); exact HO_3.out⟩, ⟨by (with_reducible repeat (first | apply Kd.R_alloc | apply Kd.R_drewN | apply Kd.R_drew)); exact Kd.R_mono HO_4.out (fun _ hk => ⟨hk, hk⟩)⟩, ⟨by (with_reducible repeat (first | apply Kd.R_alloc | apply Kd.R_drewN | apply Kd.R_drew)); exact HO_3.out⟩, ⟨by repeat (first | (with_reducible first | exact HB.out | apply below_alloc | apply pw_below_drewN | apply below_drew1) | exact HB.out)⟩⟩
        case round =>
          clear H'
          try clear c1
          try clear c2
          try clear p2
          try clear c5
          try clear c5b0
          try clear p2
          obtain ⟨x4_2, x15_2, rfl, HA, HK2, HO_3, HO_4, HO_13, HB⟩ := hrel
          cases gk with
          | zero => exact absurd HA.out (by simp [glossatorref3_Order.l1])
          | succ k2 =>
            have H := HA.out
            clear HA
            simp only [glossatorref3_Order.l1] at H
            by_cases c6 : x15_2 < (t201.length : Int)
            · rw [if_pos c6] at H
              have c6b0 : decide (x15_2 < (t201.length : Int)) = true := decide_eq_true c6
              clear c6
              by_cases c7 : 0 ≤ x15_2
              · rw [if_pos c7] at H
                have c7b0 : decide (0 ≤ x15_2) = true := decide_eq_true c7
                clear c7
                by_cases c8 : x15_2 < (t201.length : Int)
                · rw [if_pos c8] at H
                  have c8b0 : decide (x15_2 < (t201.length : Int)) = true := decide_eq_true c8
                  clear c8
                  replace H := Option.bind_eq_some_iff.mp H
                  obtain ⟨t206, A90, H⟩ := H
                  replace H : (if t206 = true then (if x4_2.length < 5864062014805 then (glossatorref3_Order.l0 k2 l0 t201 (x4_2 ++ [(⟨(rd_T24 t201 x15_2).f0, (rd_T24 t201 x15_2).f1, (rd_T24 t201 x15_2).f2⟩ : S24)]) (t201.length : Int) (wrap64 (x11_1 + 1))) else (none)) else (glossatorref3_Order.l1 k2 l0 t201 x4_2 (t201.length : Int) x11_1 t201 (t201.length : Int) (wrap64 (x15_2 + 1)))) = some r := H
                  have A9 := Aside0.mk A90
                  clear A90
                  by_cases c10 : t206 = true
                  · subst c10
                    have H1 : (if x4_2.length < 5864062014805 then (glossatorref3_Order.l0 k2 l0 t201 (x4_2 ++ [(⟨(rd_T24 t201 x15_2).f0, (rd_T24 t201 x15_2).f1, (rd_T24 t201 x15_2).f2⟩ : S24)]) (t201.length : Int) (wrap64 (x11_1 + 1))) else (none)) = some r := by rw [if_pos rfl] at H; exact H
                    clear H
                    have H := H1
                    clear H1
                    by_cases c11 : x4_2.length < 5864062014805
                    · rw [if_pos c11] at H
                      have LMc11 := Aside0.mk c11
                      clear c11
                      obtain ⟨y207, hy207⟩ : ∃ y_ : List (S24), y_ = (x4_2 ++ [(⟨(rd_T24 t201 x15_2).f0, (rd_T24 t201 x15_2).f1, (rd_T24 t201 x15_2).f2⟩ : S24)]) := ⟨_, rfl⟩
                      replace H : (glossatorref3_Order.l0 k2 l0 t201 y207 (t201.length : Int) (wrap64 (x11_1 + 1))) = some r := by first | (rw [hy207]; with_reducible exact H) | (have H2_ := (Option.bind_some _ _).symm.trans H; rw [hy207]; with_reducible exact H2_) | (have H2_ := (Option.bind_some _ _).symm.trans H; with_reducible exact H2_) | with_reducible exact H | (rw [hy207]; exact H) | exact H
                      have Ny207 := Aside0.mk hy207
                      clear hy207
                      have H' := Aside0.mk H
                      clear H
                      have p204 : 0 ≤ (x15_2 : Int) := of_decide_eq_true (by first | (with_reducible assumption) | assumption)
                      have q204 : x15_2 < (t201.length : Int) := of_decide_eq_true (by first | (with_reducible assumption) | assumption)
                      obtain ⟨ad204, e204, hx204_0, hx204_1, hx204_2⟩ := at_T24 (Kd.R_reads' HO_13.out).2.2 x15_2 p204 q204
                      cases e204
                      replace p204 := eq_true p204
                      replace q204 := eq_true q204
                      go_wp2_with (first | ((with_reducible refine gate_dst (N := 6) rfl ?_); refine box_event ?hg (N := 6) ?hd (cs := #[.int .i64 0, .int .i64 0, .int .i64 0]) (t := 24) ?hr ?_; (case hd => rfl); (case hg => rfl); (case hr => first | (go_simp; done) | (go_simp; rfl)); intro gb205 hg w12 hbox hb; have n0_ := Aside0.mk (Kd.R_below (Kd.R_elderB (by (with_reducible repeat (first | apply Kd.R_alloc | apply Kd.R_drewN | apply Kd.R_drew)); exact HO_3.out) gb205 (Nat.le_of_eq hg.symm)) hb); have n1_ := Aside0.mk (Kd.R_below (Kd.R_elderB (by (with_reducible repeat (first | apply Kd.R_alloc | apply Kd.R_drewN | apply Kd.R_drew)); exact HO_4.out) gb205 (Nat.le_of_eq hg.symm)) hb); have n2_ := Aside0.mk (Kd.R_below (Kd.R_elderB (by (with_reducible repeat (first | apply Kd.R_alloc | apply Kd.R_drewN | apply Kd.R_drew)); exact HO_13.out) gb205 (Nat.le_of_eq hg.symm)) hb); have n3_ := Aside0.mk (below_step (by repeat (first | (with_reducible first | exact HB.out | apply below_alloc | apply pw_below_drewN | apply below_drew1) | exact HB.out)) hb); have n4_ := Aside0.mk (hbox); have n5_ := Aside0.mk ((by rw [hg]; exact (below_size (by repeat (first | (with_reducible first | exact HB.out | apply below_alloc | apply pw_below_drewN | apply below_drew1) | exact HB.out))) : w.heap.size ≤ gb205)); have n6_ := Aside0.mk ((by rw [hg]; exact (below_size (by repeat (first | (with_reducible first | exact HB.out | apply below_alloc | apply pw_below_drewN | apply below_drew1) | exact HB.out))) : w.heap.size ≤ gb205)); clear HO_3; clear HO_4; clear HO_13; clear HB; have HO_3 := n0_; have HO_4 := n1_; have HO_13 := n2_; have HB := n3_; have BK205 := n4_; have GW205 := n5_; have GE205 := n6_; clear n0_ n1_ n2_ n3_ n4_ n5_ n6_; clear hb hbox hg; have hcz13_0 : w12.cell? ⟨gb205, 0, none⟩ = some (.int .i64 0) := (blk_cell BK205.out 0).trans rfl; have hcz13_1 : w12.cell? ⟨gb205, 1, none⟩ = some (.int .i64 0) := (blk_cell BK205.out 1).trans rfl; have hcz13_2 : w12.cell? ⟨gb205, 2, none⟩ = some (.int .i64 0) := (blk_cell BK205.out 2).trans rfl; have hfz13_0 := blk_frozen BK205.out 0; have hfz13_1 := blk_frozen BK205.out 1; have hfz13_2 := blk_frozen BK205.out 2; obtain ⟨Ao14, co14, eo14⟩ := Kd.R_slice HO_4.out; subst eo14) | ((with_reducible refine gate_callee (f := 29) rfl ?_); refine goesL_ (some 22) rfl rfl Try.func29 (by kernel_rfl) rfl #[.slice A0 l0.length c0, .agg #[.int .i64 ((rd_T24 t201 x15_2).f0), .int .i64 ((rd_T24 t201 x15_2).f1), .int .i64 ((rd_T24 t201 x15_2).f2)], .slice Ao14 x4_2.length co14] rfl (by (try simp only [List.map_toArray, List.map_cons, List.map_nil]); first | done | rfl | (simp only [List.length_drop, List.length_take]; rfl)) ?_; (with_reducible refine (glossatorref3_placeable.calls k2 _ _ l0 ((rd_T24 t201 x15_2).f0) ((rd_T24 t201 x15_2).f1) ((rd_T24 t201 x15_2).f2) _ _ x4_2 true _ ?side1 ?side2 ?side3 ?side4 A9.out).mono ?_); (case side1 => exact Kd.C_below HR0.out (by repeat (first | (with_reducible first | exact HB.out | apply below_alloc | apply pw_below_drewN | apply below_drew1 | refine below_set ?_ GE205.out) | exact HB.out))); (case side2 => exact HC0.out); (case side3 => refine (Kd.R_reads' (e := 24) (base := w.heap.size) (ok := fun k_ => ((some k_ ≠ (.slice (some ad204) t201.length co4 : Value).ownBlock ∧ some k_ ≠ (.slice (some ad204) t201.length co4 : Value).ownBlock) ∧ k_ ≠ gb205)) (n := x4_2.length) (c := co14) ?_).2.2; exact (by (with_reducible repeat (first | apply Kd.R_alloc | apply Kd.R_drewN | apply Kd.R_drew)); exact (Kd.R_mono (Kd.R_far (p := ⟨gb205, 2, none⟩) (Kd.R_far (p := ⟨gb205, 1, none⟩) (Kd.R_far (p := ⟨gb205, 0, none⟩) (Kd.R_mono HO_4.out (fun k_ hk => (⟨hk, hk.2⟩ : _ ∧ k_ ≠ gb205))) (fun _ hk => hk.2) (.int .i64 ((rd_T24 t201 x15_2).f0))) (fun _ hk => hk.2) (.int .i64 ((rd_T24 t201 x15_2).f1))) (fun _ hk => hk.2) (.int .i64 ((rd_T24 t201 x15_2).f2))) (fun _ h_ => h_.1)))); (case side4 => exact (Kd.R_reads' HO_4.out).2.1); rintro e w15 ⟨rfl, hb⟩; refine ⟨_, rfl, ?_⟩; have n0_ := Aside0.mk (Kd.R_below (by (with_reducible repeat (first | apply Kd.R_alloc | apply Kd.R_drewN | apply Kd.R_drew)); exact (Kd.R_mono (Kd.R_far (p := ⟨gb205, 2, none⟩) (Kd.R_far (p := ⟨gb205, 1, none⟩) (Kd.R_far (p := ⟨gb205, 0, none⟩) (Kd.R_mono HO_3.out (fun k_ hk => (⟨hk, hk.2⟩ : _ ∧ k_ ≠ gb205))) (fun _ hk => hk.2) (.int .i64 ((rd_T24 t201 x15_2).f0))) (fun _ hk => hk.2) (.int .i64 ((rd_T24 t201 x15_2).f1))) (fun _ hk => hk.2) (.int .i64 ((rd_T24 t201 x15_2).f2))) (fun _ h_ => h_.1))) hb); have n1_ := Aside0.mk (Kd.R_below (by (with_reducible repeat (first | apply Kd.R_alloc | apply Kd.R_drewN | apply Kd.R_drew)); exact (Kd.R_mono (Kd.R_far (p := ⟨gb205, 2, none⟩) (Kd.R_far (p := ⟨gb205, 1, none⟩) (Kd.R_far (p := ⟨gb205, 0, none⟩) (Kd.R_mono HO_4.out (fun k_ hk => (⟨hk, hk.2⟩ : _ ∧ k_ ≠ gb205))) (fun _ hk => hk.2) (.int .i64 ((rd_T24 t201 x15_2).f0))) (fun _ hk => hk.2) (.int .i64 ((rd_T24 t201 x15_2).f1))) (fun _ hk => hk.2) (.int .i64 ((rd_T24 t201 x15_2).f2))) (fun _ h_ => h_.1))) hb); have n2_ := Aside0.mk (Kd.R_below (by (with_reducible repeat (first | apply Kd.R_alloc | apply Kd.R_drewN | apply Kd.R_drew)); exact (Kd.R_mono (Kd.R_far (p := ⟨gb205, 2, none⟩) (Kd.R_far (p := ⟨gb205, 1, none⟩) (Kd.R_far (p := ⟨gb205, 0, none⟩) (Kd.R_mono HO_13.out (fun k_ hk => (⟨hk, hk.2⟩ : _ ∧ k_ ≠ gb205))) (fun _ hk => hk.2) (.int .i64 ((rd_T24 t201 x15_2).f0))) (fun _ hk => hk.2) (.int .i64 ((rd_T24 t201 x15_2).f1))) (fun _ hk => hk.2) (.int .i64 ((rd_T24 t201 x15_2).f2))) (fun _ h_ => h_.1))) hb); have n3_ := Aside0.mk (blk_below (g := gb205) (o := .cells #[.int .i64 ((rd_T24 t201 x15_2).f0), .int .i64 ((rd_T24 t201 x15_2).f1), .int .i64 ((rd_T24 t201 x15_2).f2)] 24 (0, 0)) (by (with_reducible repeat (first | refine blk_drewN ?_ _ | refine blk_drew ?_ | refine blk_alloc ?_ _)); refine blk_put (cs := #[.int .i64 ((rd_T24 t201 x15_2).f0), .int .i64 ((rd_T24 t201 x15_2).f1), .int .i64 0]) ?_ 2 _ rfl; (with_reducible repeat (first | refine blk_drewN ?_ _ | refine blk_drew ?_ | refine blk_alloc ?_ _)); refine blk_put (cs := #[.int .i64 ((rd_T24 t201 x15_2).f0), .int .i64 0, .int .i64 0]) ?_ 1 _ rfl; (with_reducible repeat (first | refine blk_drewN ?_ _ | refine blk_drew ?_ | refine blk_alloc ?_ _)); refine blk_put (cs := #[.int .i64 0, .int .i64 0, .int .i64 0]) ?_ 0 _ rfl; (with_reducible repeat (first | refine blk_drewN ?_ _ | refine blk_drew ?_ | refine blk_alloc ?_ _)); exact BK205.out) hb); have n4_ := Aside0.mk (below_step (by repeat (first | (with_reducible first | exact HB.out | apply below_alloc | apply pw_below_drewN | apply below_drew1 | refine below_set ?_ GE205.out) | exact HB.out)) hb); clear HO_3; clear HO_4; clear HO_13; clear BK205; clear HB; have HO_3 := n0_; have HO_4 := n1_; have HO_13 := n2_; have BK205 := n3_; have HB := n4_; clear n0_ n1_ n2_ n3_ n4_; (try clear hb); (try clear hb2); (try clear hk); (try clear hi); have hcz16_0 : w15.cell? ⟨gb205, 0, none⟩ = some (.int .i64 ((rd_T24 t201 x15_2).f0)) := (blk_cell BK205.out 0).trans rfl; have hcz16_1 : w15.cell? ⟨gb205, 1, none⟩ = some (.int .i64 ((rd_T24 t201 x15_2).f1)) := (blk_cell BK205.out 1).trans rfl; have hcz16_2 : w15.cell? ⟨gb205, 2, none⟩ = some (.int .i64 ((rd_T24 t201 x15_2).f2)) := (blk_cell BK205.out 2).trans rfl; have hfz16_0 := blk_frozen BK205.out 0; have hfz16_1 := blk_frozen BK205.out 1; have hfz16_2 := blk_frozen BK205.out 2) | ((with_reducible refine gate_builtin (b := .append) (xs := #[.tmp 23, .tmp 25]) rfl ?_); at_builtin; refine Kd.R_append k24 (w0 := w) w.heap.size rfl (.tmp 23) (.tmp 25) 27 24 (.agg #[(.int .i64 0), (.int .i64 0), (.int .i64 0)]) 24 rfl Try.underlying27 info24 rfl (by decide) (by omega) (.slice Ao14 x4_2.length co14) x4_2 (⟨(rd_T24 t201 x15_2).f0, (rd_T24 t201 x15_2).f1, (rd_T24 t201 x15_2).f2⟩ : S24) [.int .i64 ((rd_T24 t201 x15_2).f0), .int .i64 ((rd_T24 t201 x15_2).f1), .int .i64 ((rd_T24 t201 x15_2).f2)] (fun k_ => some k_ ≠ (.slice (some ad204) t201.length co4 : Value).ownBlock ∧ some k_ ≠ (.slice (some ad204) t201.length co4 : Value).ownBlock ∧ k_ ≠ gb205) (fun _ => False) rfl rfl ?aP (fun _ hk => hk.elim) ?aF ?aO ?aB ?aS ?aL ?_; (case aP => exact k24_mkM _ _ _ (⟨(rd_T24 t201 x15_2).f0, (rd_T24 t201 x15_2).f1, (rd_T24 t201 x15_2).f2⟩ : S24)); (case aB => exact (by repeat (first | (with_reducible first | exact HB.out | apply below_alloc | apply pw_below_drewN | apply below_drew1 | refine below_set ?_ GE205.out) | exact HB.out))); (case aF => exact (fun k_ hk => ⟨Kd.fresh' (Kd.R_lt (by (with_reducible repeat (first | apply Kd.R_alloc | apply Kd.R_drewN | apply Kd.R_drew)); exact HO_3.out)) k_ hk, Kd.fresh' (Kd.R_lt (by (with_reducible repeat (first | apply Kd.R_alloc | apply Kd.R_drewN | apply Kd.R_drew)); exact HO_13.out)) k_ hk, Kd.freshB (g := gb205) (o := .cells #[.int .i64 ((rd_T24 t201 x15_2).f0), .int .i64 ((rd_T24 t201 x15_2).f1), .int .i64 ((rd_T24 t201 x15_2).f2)] 24 (0, 0)) (by (with_reducible repeat (first | refine blk_drewN ?_ _ | refine blk_drew ?_ | refine blk_alloc ?_ _)); exact BK205.out) k_ hk⟩)); (case aO => exact (by (with_reducible repeat (first | apply Kd.R_alloc | apply Kd.R_drewN | apply Kd.R_drew)); exact Kd.R_mono HO_4.out (fun _ hk => ⟨hk.1.1, ⟨hk.1.2, hk.2⟩⟩))); (case aS => exact (below_size (by repeat (first | (with_reducible first | exact HB.out | apply below_alloc | apply pw_below_drewN | apply below_drew1 | refine below_set ?_ GE205.out) | exact HB.out)))); (case aL => have := LMc11.out; omega); intro v208 w17 ho hb hg hat; rw [← Ny207.out] at ho; have n0_ := Aside0.mk (Kd.R_after (ok := (fun k_ => k_ ≠ gb205)) (by (with_reducible repeat (first | apply Kd.R_alloc | apply Kd.R_drewN | apply Kd.R_drew)); exact Kd.R_mono HO_3.out (fun _ hk => ⟨hk.2, hk.1⟩)) hg hat); have n1_ := Aside0.mk (Kd.R_after (ok := (fun k_ => k_ ≠ gb205)) (by (with_reducible repeat (first | apply Kd.R_alloc | apply Kd.R_drewN | apply Kd.R_drew)); exact Kd.R_mono HO_13.out (fun _ hk => ⟨hk.2, hk.1⟩)) hg hat); have n2_ := Aside0.mk (blk_grown (g := gb205) (o := .cells #[.int .i64 ((rd_T24 t201 x15_2).f0), .int .i64 ((rd_T24 t201 x15_2).f1), .int .i64 ((rd_T24 t201 x15_2).f2)] 24 (0, 0)) (by (with_reducible repeat (first | refine blk_drewN ?_ _ | refine blk_drew ?_ | refine blk_alloc ?_ _)); exact BK205.out) hg (Kd.R_away HO_4.out (fun _ hk => hk.2))); have n3_ := Aside0.mk (hb); have n4_ := Aside0.mk (ho); clear HO_3; clear HO_13; clear BK205; clear HB; clear HO_4; have HO_3 := n0_; have HO_13 := n1_; have BK205 := n2_; have HB := n3_; have HO209 := n4_; clear n0_ n1_ n2_ n3_ n4_; clear ho hb hg hat))
                      go_roundg k2
                      case measure => have := HK1.out; have := HK2.out; omega
                      case rel => exact ⟨(y207), (wrap64 (x11_1 + 1)), (by first | rfl | (simp; done) | (simp [*]; done) | (simp [isEmpty_bne]; done)), H', ⟨by have := HK1.out; have := HK2.out; omega⟩, ⟨by (with_reducible repeat (first | apply Kd.R_alloc | apply Kd.R_drewN | apply Kd.R_drew)); exact Kd.R_mono HO_3.out (fun _ hk => hk.2)⟩, ⟨by (with_reducible repeat (first | apply Kd.R_alloc | apply Kd.R_drewN | apply Kd.R_drew)); exact Kd.R_mono HO209.out (fun _ hk => hk.1)⟩, ⟨by repeat (first | (with_reducible first | exact HB.out | apply below_alloc | apply pw_below_drewN | apply below_drew1 | refine below_set ?_ GE205.out) | exact HB.out)⟩⟩
                    · rw [if_neg c11] at H
                      exact absurd H (by simp)
                  · replace c10 := Bool.eq_false_iff.mpr c10
                    subst c10
                    have H1 : (glossatorref3_Order.l1 k2 l0 t201 x4_2 (t201.length : Int) x11_1 t201 (t201.length : Int) (wrap64 (x15_2 + 1))) = some r := by rw [if_neg (show ¬ (false = true) by decide)] at H; exact H
                    clear H
                    have H := H1
                    clear H1
                    have H' := Aside0.mk H
                    clear H
                    have p204 : 0 ≤ (x15_2 : Int) := of_decide_eq_true (by first | (with_reducible assumption) | assumption)
                    have q204 : x15_2 < (t201.length : Int) := of_decide_eq_true (by first | (with_reducible assumption) | assumption)
                    obtain ⟨ad204, e204, hx204_0, hx204_1, hx204_2⟩ := at_T24 (Kd.R_reads' HO_13.out).2.2 x15_2 p204 q204
                    cases e204
                    replace p204 := eq_true p204
                    replace q204 := eq_true q204
                    go_wp2_with (first | ((with_reducible refine gate_dst (N := 6) rfl ?_); refine box_event ?hg (N := 6) ?hd (cs := #[.int .i64 0, .int .i64 0, .int .i64 0]) (t := 24) ?hr ?_; (case hd => rfl); (case hg => rfl); (case hr => first | (go_simp; done) | (go_simp; rfl)); intro gb205 hg w18 hbox hb; have n0_ := Aside0.mk (Kd.R_below (Kd.R_elderB (by (with_reducible repeat (first | apply Kd.R_alloc | apply Kd.R_drewN | apply Kd.R_drew)); exact HO_3.out) gb205 (Nat.le_of_eq hg.symm)) hb); have n1_ := Aside0.mk (Kd.R_below (Kd.R_elderB (by (with_reducible repeat (first | apply Kd.R_alloc | apply Kd.R_drewN | apply Kd.R_drew)); exact HO_4.out) gb205 (Nat.le_of_eq hg.symm)) hb); have n2_ := Aside0.mk (Kd.R_below (Kd.R_elderB (by (with_reducible repeat (first | apply Kd.R_alloc | apply Kd.R_drewN | apply Kd.R_drew)); exact HO_13.out) gb205 (Nat.le_of_eq hg.symm)) hb); have n3_ := Aside0.mk (below_step (by repeat (first | (with_reducible first | exact HB.out | apply below_alloc | apply pw_below_drewN | apply below_drew1) | exact HB.out)) hb); have n4_ := Aside0.mk (hbox); have n5_ := Aside0.mk ((by rw [hg]; exact (below_size (by repeat (first | (with_reducible first | exact HB.out | apply below_alloc | apply pw_below_drewN | apply below_drew1) | exact HB.out))) : w.heap.size ≤ gb205)); have n6_ := Aside0.mk ((by rw [hg]; exact (below_size (by repeat (first | (with_reducible first | exact HB.out | apply below_alloc | apply pw_below_drewN | apply below_drew1) | exact HB.out))) : w.heap.size ≤ gb205)); clear HO_3; clear HO_4; clear HO_13; clear HB; have HO_3 := n0_; have HO_4 := n1_; have HO_13 := n2_; have HB := n3_; have BK205 := n4_; have GW205 := n5_; have GE205 := n6_; clear n0_ n1_ n2_ n3_ n4_ n5_ n6_; clear hb hbox hg; have hcz19_0 : w18.cell? ⟨gb205, 0, none⟩ = some (.int .i64 0) := (blk_cell BK205.out 0).trans rfl; have hcz19_1 : w18.cell? ⟨gb205, 1, none⟩ = some (.int .i64 0) := (blk_cell BK205.out 1).trans rfl; have hcz19_2 : w18.cell? ⟨gb205, 2, none⟩ = some (.int .i64 0) := (blk_cell BK205.out 2).trans rfl; have hfz19_0 := blk_frozen BK205.out 0; have hfz19_1 := blk_frozen BK205.out 1; have hfz19_2 := blk_frozen BK205.out 2; obtain ⟨Ao20, co20, eo20⟩ := Kd.R_slice HO_4.out; subst eo20) | ((with_reducible refine gate_callee (f := 29) rfl ?_); refine goesL_ (some 22) rfl rfl Try.func29 (by kernel_rfl) rfl #[.slice A0 l0.length c0, .agg #[.int .i64 ((rd_T24 t201 x15_2).f0), .int .i64 ((rd_T24 t201 x15_2).f1), .int .i64 ((rd_T24 t201 x15_2).f2)], .slice Ao20 x4_2.length co20] rfl (by (try simp only [List.map_toArray, List.map_cons, List.map_nil]); first | done | rfl | (simp only [List.length_drop, List.length_take]; rfl)) ?_; (with_reducible refine (glossatorref3_placeable.calls k2 _ _ l0 ((rd_T24 t201 x15_2).f0) ((rd_T24 t201 x15_2).f1) ((rd_T24 t201 x15_2).f2) _ _ x4_2 false _ ?side1 ?side2 ?side3 ?side4 A9.out).mono ?_); (case side1 => exact Kd.C_below HR0.out (by repeat (first | (with_reducible first | exact HB.out | apply below_alloc | apply pw_below_drewN | apply below_drew1 | refine below_set ?_ GE205.out) | exact HB.out))); (case side2 => exact HC0.out); (case side3 => refine (Kd.R_reads' (e := 24) (base := w.heap.size) (ok := fun k_ => ((some k_ ≠ (.slice (some ad204) t201.length co4 : Value).ownBlock ∧ some k_ ≠ (.slice (some ad204) t201.length co4 : Value).ownBlock) ∧ k_ ≠ gb205)) (n := x4_2.length) (c := co20) ?_).2.2; exact (by (with_reducible repeat (first | apply Kd.R_alloc | apply Kd.R_drewN | apply Kd.R_drew)); exact (Kd.R_mono (Kd.R_far (p := ⟨gb205, 2, none⟩) (Kd.R_far (p := ⟨gb205, 1, none⟩) (Kd.R_far (p := ⟨gb205, 0, none⟩) (Kd.R_mono HO_4.out (fun k_ hk => (⟨hk, hk.2⟩ : _ ∧ k_ ≠ gb205))) (fun _ hk => hk.2) (.int .i64 ((rd_T24 t201 x15_2).f0))) (fun _ hk => hk.2) (.int .i64 ((rd_T24 t201 x15_2).f1))) (fun _ hk => hk.2) (.int .i64 ((rd_T24 t201 x15_2).f2))) (fun _ h_ => h_.1)))); (case side4 => exact (Kd.R_reads' HO_4.out).2.1); rintro e w21 ⟨rfl, hb⟩; refine ⟨_, rfl, ?_⟩; have n0_ := Aside0.mk (Kd.R_below (by (with_reducible repeat (first | apply Kd.R_alloc | apply Kd.R_drewN | apply Kd.R_drew)); exact (Kd.R_mono (Kd.R_far (p := ⟨gb205, 2, none⟩) (Kd.R_far (p := ⟨gb205, 1, none⟩) (Kd.R_far (p := ⟨gb205, 0, none⟩) (Kd.R_mono HO_3.out (fun k_ hk => (⟨hk, hk.2⟩ : _ ∧ k_ ≠ gb205))) (fun _ hk => hk.2) (.int .i64 ((rd_T24 t201 x15_2).f0))) (fun _ hk => hk.2) (.int .i64 ((rd_T24 t201 x15_2).f1))) (fun _ hk => hk.2) (.int .i64 ((rd_T24 t201 x15_2).f2))) (fun _ h_ => h_.1))) hb); have n1_ := Aside0.mk (Kd.R_below (by (with_reducible repeat (first | apply Kd.R_alloc | apply Kd.R_drewN | apply Kd.R_drew)); exact (Kd.R_mono (Kd.R_far (p := ⟨gb205, 2, none⟩) (Kd.R_far (p := ⟨gb205, 1, none⟩) (Kd.R_far (p := ⟨gb205, 0, none⟩) (Kd.R_mono HO_4.out (fun k_ hk => (⟨hk, hk.2⟩ : _ ∧ k_ ≠ gb205))) (fun _ hk => hk.2) (.int .i64 ((rd_T24 t201 x15_2).f0))) (fun _ hk => hk.2) (.int .i64 ((rd_T24 t201 x15_2).f1))) (fun _ hk => hk.2) (.int .i64 ((rd_T24 t201 x15_2).f2))) (fun _ h_ => h_.1))) hb); have n2_ := Aside0.mk (Kd.R_below (by (with_reducible repeat (first | apply Kd.R_alloc | apply Kd.R_drewN | apply Kd.R_drew)); exact (Kd.R_mono (Kd.R_far (p := ⟨gb205, 2, none⟩) (Kd.R_far (p := ⟨gb205, 1, none⟩) (Kd.R_far (p := ⟨gb205, 0, none⟩) (Kd.R_mono HO_13.out (fun k_ hk => (⟨hk, hk.2⟩ : _ ∧ k_ ≠ gb205))) (fun _ hk => hk.2) (.int .i64 ((rd_T24 t201 x15_2).f0))) (fun _ hk => hk.2) (.int .i64 ((rd_T24 t201 x15_2).f1))) (fun _ hk => hk.2) (.int .i64 ((rd_T24 t201 x15_2).f2))) (fun _ h_ => h_.1))) hb); have n3_ := Aside0.mk (blk_below (g := gb205) (o := .cells #[.int .i64 ((rd_T24 t201 x15_2).f0), .int .i64 ((rd_T24 t201 x15_2).f1), .int .i64 ((rd_T24 t201 x15_2).f2)] 24 (0, 0)) (by (with_reducible repeat (first | refine blk_drewN ?_ _ | refine blk_drew ?_ | refine blk_alloc ?_ _)); refine blk_put (cs := #[.int .i64 ((rd_T24 t201 x15_2).f0), .int .i64 ((rd_T24 t201 x15_2).f1), .int .i64 0]) ?_ 2 _ rfl; (with_reducible repeat (first | refine blk_drewN ?_ _ | refine blk_drew ?_ | refine blk_alloc ?_ _)); refine blk_put (cs := #[.int .i64 ((rd_T24 t201 x15_2).f0), .int .i64 0, .int .i64 0]) ?_ 1 _ rfl; (with_reducible repeat (first | refine blk_drewN ?_ _ | refine blk_drew ?_ | refine blk_alloc ?_ _)); refine blk_put (cs := #[.int .i64 0, .int .i64 0, .int .i64 0]) ?_ 0 _ rfl; (with_reducible repeat (first | refine blk_drewN ?_ _ | refine blk_drew ?_ | refine blk_alloc ?_ _)); exact BK205.out) hb); have n4_ := Aside0.mk (below_step (by repeat (first | (with_reducible first | exact HB.out | apply below_alloc | apply pw_below_drewN | apply below_drew1 | refine below_set ?_ GE205.out) | exact HB.out)) hb); clear HO_3; clear HO_4; clear HO_13; clear BK205; clear HB; have HO_3 := n0_; have HO_4 := n1_; have HO_13 := n2_; have BK205 := n3_; have HB := n4_; clear n0_ n1_ n2_ n3_ n4_; (try clear hb); (try clear hb2); (try clear hk); (try clear hi)))
                    go_roundg k2
                    case measure => have := HK1.out; have := HK2.out; omega
                    case rel => exact ⟨(x4_2), (wrap64 (x15_2 + 1)), (by first | rfl | (simp; done) | (simp [*]; done) | (simp [isEmpty_bne]; done)), H', ⟨by have := HK1.out; have := HK2.out; omega⟩, ⟨by (with_reducible repeat (first | apply Kd.R_alloc | apply Kd.R_drewN | apply Kd.R_drew)); exact Kd.R_mono HO_3.out (fun _ hk => hk.1)⟩, ⟨by (with_reducible repeat (first | apply Kd.R_alloc | apply Kd.R_drewN | apply Kd.R_drew)); exact Kd.R_mono HO_4.out (fun _ hk => ⟨hk.1.1, hk.1.2⟩)⟩, ⟨by (with_reducible repeat (first | apply Kd.R_alloc | apply Kd.R_drewN | apply Kd.R_drew)); exact Kd.R_mono HO_13.out (fun _ hk => hk.1)⟩, ⟨by repeat (first | (with_reducible first | exact HB.out | apply below_alloc | apply pw_below_drewN | apply below_drew1 | refine below_set ?_ GE205.out) | exact HB.out)⟩⟩
                · rw [if_neg c8] at H
                  exact absurd H (by simp)
              · rw [if_neg c7] at H
                exact absurd H (by simp)
            · rw [if_neg c6] at H
              have c6b0 : decide (x15_2 < (t201.length : Int)) = false := decide_eq_false c6
              clear c6
              have H' := Aside0.mk H
              clear H
              go_wp2
              go_roundg k2
              case measure => have := HK1.out; have := HK2.out; omega
              case rel => exact ⟨(x4_2), (wrap64 (x11_1 + 1)), (by first | rfl | (simp; done) | (simp [*]; done) | (simp [isEmpty_bne]; done)), H', ⟨by have := HK1.out; have := HK2.out; omega⟩, ⟨by (with_reducible repeat (first | apply Kd.R_alloc | apply Kd.R_drewN | apply Kd.R_drew)); exact HO_3.out⟩, ⟨by (with_reducible repeat (first | apply Kd.R_alloc | apply Kd.R_drewN | apply Kd.R_drew)); exact Kd.R_mono HO_4.out (fun _ hk => hk.1)⟩, ⟨by repeat (first | (with_reducible first | exact HB.out | apply below_alloc | apply pw_below_drewN | apply below_drew1) | exact HB.out)⟩⟩
      · rw [if_neg c5] at H
        have c5b0 : decide (x11_1 < (t201.length : Int)) = false := decide_eq_false c5
        clear c5
        obtain rfl := Option.some.inj H
        go_wp2
        go_ret
        exact ⟨_, by first | rfl | (simp [errW_none, errW_some] <;> rfl) | (simp [*, errW_none, errW_some] <;> rfl), by (with_reducible repeat (first | apply Kd.R_alloc | apply Kd.R_drewN | apply Kd.R_drew)); exact Kd.R_mono HO_4.out (fun _ hk => trivial), by repeat (first | (with_reducible first | exact HB.out | apply below_alloc | apply pw_below_drewN | apply below_drew1) | exact HB.out)⟩

/-! ### glossatorlaw3_DepgraphOrder: function 4 -/
def glossatorlaw3_DepgraphOrder.f (k : Nat) (l0 : List (S44)) : Option (Bool) := (glossatorlaw3_graphExample.f k).bind fun t210 => (if t210 = true then (if 0 ≤ (mn (l0.length : Int) 30) then (if (mn (l0.length : Int) 30) ≤ (l0.length : Int) then ((some (l0.take ((mn (l0.length : Int) 30) : Int).toNat : List (S44))).bind fun y211 => ((depgraph_TopologicalOrder.f y211).bind fun bt215 => ((glossatorref3_Cyclic.f k y211).bind fun t219 => (if t219 = true then ((glossatorlaw3_graphExample.f k).bind fun t220 => (if t220 = true then (if bt215.2 = 8 then (some ((bt215.1.length : Int) == 0)) else (some false)) else (some false))) else ((glossatorlaw3_graphExample.f k).bind fun t221 => (if t221 = true then (if bt215.2 = 0 then ((glossatorref3_Order.f k y211).bind fun t222 => ((api_QKey_8.f k bt215.1 t222).bind fun t225 => (some t225))) else (some false)) else (some false))))))) else (none)) else (none)) else (some false))
theorem glossatorlaw3_DepgraphOrder.mono : ∀ a0 k, LeO (glossatorlaw3_DepgraphOrder.f k a0) (glossatorlaw3_DepgraphOrder.f (k + 1) a0) := by
  intro a0 k
  unfold glossatorlaw3_DepgraphOrder.f
  repeat' first
      | (with_reducible exact api_QKey_8.mono _ _ _)
      | (with_reducible exact glossatorlaw3_graphExample.mono _)
      | (with_reducible exact glossatorref3_Cyclic.mono _ _)
      | (with_reducible exact glossatorref3_Order.mono _ _)
      | (with_reducible exact LeO.refl _)
      | (with_reducible exact LeO.none _)
      | (with_reducible refine LeO.ite ?_ ?_)
      | (with_reducible refine LeO.bind ?_ (fun _ => ?_))
      | exact api_QKey_8.mono _ _ _
      | exact glossatorlaw3_graphExample.mono _
      | exact glossatorref3_Cyclic.mono _ _
      | exact glossatorref3_Order.mono _ _
      | exact LeO.none _
      | refine LeO.ite ?_ ?_
      | refine LeO.bind ?_ (fun _ => ?_)
set_option maxHeartbeats 8000000 in
set_option maxRecDepth 100000 in
theorem glossatorlaw3_DepgraphOrder.calls (k : Nat) (A0 : Option Addr) (c0 : Nat) (l0 : List (S44)) (r : Bool) (w : World) (hr0 : Kd.C k44 w A0 l0.length l0) (hc0 : l0.length ≤ c0) (h : glossatorlaw3_DepgraphOrder.f k l0 = some r) :
    Calls Try.prog 4 #[.slice A0 l0.length c0] w fun e w' => e = .returned (.bool r) ∧ Below w.heap.size w w' := by
  have HR0 := Aside0.mk hr0
  have HC0 := Aside0.mk hc0
  clear hr0 hc0
  have HB := Aside0.mk (Below.refl w.heap.size w)
  have H : ((glossatorlaw3_graphExample.f k).bind fun t210 => (if t210 = true then (if 0 ≤ (mn (l0.length : Int) 30) then (if (mn (l0.length : Int) 30) ≤ (l0.length : Int) then ((some (l0.take ((mn (l0.length : Int) 30) : Int).toNat : List (S44))).bind fun y211 => ((depgraph_TopologicalOrder.f y211).bind fun bt215 => ((glossatorref3_Cyclic.f k y211).bind fun t219 => (if t219 = true then ((glossatorlaw3_graphExample.f k).bind fun t220 => (if t220 = true then (if bt215.2 = 8 then (some ((bt215.1.length : Int) == 0)) else (some false)) else (some false))) else ((glossatorlaw3_graphExample.f k).bind fun t221 => (if t221 = true then (if bt215.2 = 0 then ((glossatorref3_Order.f k y211).bind fun t222 => ((api_QKey_8.f k bt215.1 t222).bind fun t225 => (some t225))) else (some false)) else (some false))))))) else (none)) else (none)) else (some false))) = some r := h
  clear h
  replace H := Option.bind_eq_some_iff.mp H
  obtain ⟨t210, A20, H⟩ := H
  replace H : (if t210 = true then (if 0 ≤ (mn (l0.length : Int) 30) then (if (mn (l0.length : Int) 30) ≤ (l0.length : Int) then ((some (l0.take ((mn (l0.length : Int) 30) : Int).toNat : List (S44))).bind fun y211 => ((depgraph_TopologicalOrder.f y211).bind fun bt215 => ((glossatorref3_Cyclic.f k y211).bind fun t219 => (if t219 = true then ((glossatorlaw3_graphExample.f k).bind fun t220 => (if t220 = true then (if bt215.2 = 8 then (some ((bt215.1.length : Int) == 0)) else (some false)) else (some false))) else ((glossatorlaw3_graphExample.f k).bind fun t221 => (if t221 = true then (if bt215.2 = 0 then ((glossatorref3_Order.f k y211).bind fun t222 => ((api_QKey_8.f k bt215.1 t222).bind fun t225 => (some t225))) else (some false)) else (some false))))))) else (none)) else (none)) else (some false)) = some r := H
  have A2 := Aside0.mk A20
  clear A20
  by_cases c3 : t210 = true
  · subst c3
    have H1 : (if 0 ≤ (mn (l0.length : Int) 30) then (if (mn (l0.length : Int) 30) ≤ (l0.length : Int) then ((some (l0.take ((mn (l0.length : Int) 30) : Int).toNat : List (S44))).bind fun y211 => ((depgraph_TopologicalOrder.f y211).bind fun bt215 => ((glossatorref3_Cyclic.f k y211).bind fun t219 => (if t219 = true then ((glossatorlaw3_graphExample.f k).bind fun t220 => (if t220 = true then (if bt215.2 = 8 then (some ((bt215.1.length : Int) == 0)) else (some false)) else (some false))) else ((glossatorlaw3_graphExample.f k).bind fun t221 => (if t221 = true then (if bt215.2 = 0 then ((glossatorref3_Order.f k y211).bind fun t222 => ((api_QKey_8.f k bt215.1 t222).bind fun t225 => (some t225))) else (some false)) else (some false))))))) else (none)) else (none)) = some r := by rw [if_pos rfl] at H; exact H
    clear H
    have H := H1
    clear H1
    obtain ⟨ji4, hji4⟩ : ∃ j_ : Int, (mn (l0.length : Int) 30) = j_ := ⟨_, rfl⟩
    replace H : (if 0 ≤ (ji4) then (if (ji4) ≤ (l0.length : Int) then ((some (l0.take ((ji4) : Int).toNat : List (S44))).bind fun y211 => ((depgraph_TopologicalOrder.f y211).bind fun bt215 => ((glossatorref3_Cyclic.f k y211).bind fun t219 => (if t219 = true then ((glossatorlaw3_graphExample.f k).bind fun t220 => (if t220 = true then (if bt215.2 = 8 then (some ((bt215.1.length : Int) == 0)) else (some false)) else (some false))) else ((glossatorlaw3_graphExample.f k).bind fun t221 => (if t221 = true then (if bt215.2 = 0 then ((glossatorref3_Order.f k y211).bind fun t222 => ((api_QKey_8.f k bt215.1 t222).bind fun t225 => (some t225))) else (some false)) else (some false))))))) else (none)) else (none)) = some r := by first | (rw [hji4] at H; exact H) | (simp only [hji4] at H ⊢; exact H)
    (try rw [hji4] at A2)
    (try (have hji4h : ji4 ≤ 30 := by (rw [← hji4]; unfold mn; (repeat' split) <;> omega)))
    (try (have hji4g : ji4 ≤ 64 := by omega))
    (try (have hji4l : 0 ≤ ji4 := by (rw [← hji4]; unfold mn; (repeat' split) <;> omega)))
    (try (have hji4m : 0 ≤ ji4 := by omega))
    have hji4_ : (if 30 < (l0.length : Int) then 30 else (l0.length : Int)) = ji4 := hji4
    by_cases c5 : 0 ≤ (ji4)
    · rw [if_pos c5] at H
      have c5b0 := eq_true c5
      have c5b1 : decide (0 ≤ (ji4)) = true := decide_eq_true c5
      clear c5
      by_cases c6 : (ji4) ≤ (l0.length : Int)
      · rw [if_pos c6] at H
        have c6b0 := eq_true c6
        have c6b1 : decide ((ji4) ≤ (l0.length : Int)) = true := decide_eq_true c6
        clear c6
        obtain ⟨y211, hy211⟩ : ∃ y_ : List (S44), y_ = (l0.take ((ji4) : Int).toNat) := ⟨_, rfl⟩
        replace H : ((depgraph_TopologicalOrder.f y211).bind fun bt215 => ((glossatorref3_Cyclic.f k y211).bind fun t219 => (if t219 = true then ((glossatorlaw3_graphExample.f k).bind fun t220 => (if t220 = true then (if bt215.2 = 8 then (some ((bt215.1.length : Int) == 0)) else (some false)) else (some false))) else ((glossatorlaw3_graphExample.f k).bind fun t221 => (if t221 = true then (if bt215.2 = 0 then ((glossatorref3_Order.f k y211).bind fun t222 => ((api_QKey_8.f k bt215.1 t222).bind fun t225 => (some t225))) else (some false)) else (some false)))))) = some r := by first | (rw [hy211]; with_reducible exact H) | (have H2_ := (Option.bind_some _ _).symm.trans H; rw [hy211]; with_reducible exact H2_) | (have H2_ := (Option.bind_some _ _).symm.trans H; with_reducible exact H2_) | with_reducible exact H | (rw [hy211]; exact H) | exact H
        have Ny211 := Aside0.mk hy211
        clear hy211
        replace H := Option.bind_eq_some_iff.mp H
        obtain ⟨⟨t215, t216⟩, A70, H⟩ := H
        replace H : ((glossatorref3_Cyclic.f k y211).bind fun t219 => (if t219 = true then ((glossatorlaw3_graphExample.f k).bind fun t220 => (if t220 = true then (if t216 = 8 then (some ((t215.length : Int) == 0)) else (some false)) else (some false))) else ((glossatorlaw3_graphExample.f k).bind fun t221 => (if t221 = true then (if t216 = 0 then ((glossatorref3_Order.f k y211).bind fun t222 => ((api_QKey_8.f k t215 t222).bind fun t225 => (some t225))) else (some false)) else (some false))))) = some r := H
        have A7 := Aside0.mk A70
        clear A70
        replace H := Option.bind_eq_some_iff.mp H
        obtain ⟨t219, A80, H⟩ := H
        replace H : (if t219 = true then ((glossatorlaw3_graphExample.f k).bind fun t220 => (if t220 = true then (if t216 = 8 then (some ((t215.length : Int) == 0)) else (some false)) else (some false))) else ((glossatorlaw3_graphExample.f k).bind fun t221 => (if t221 = true then (if t216 = 0 then ((glossatorref3_Order.f k y211).bind fun t222 => ((api_QKey_8.f k t215 t222).bind fun t225 => (some t225))) else (some false)) else (some false)))) = some r := H
        have A8 := Aside0.mk A80
        clear A80
        by_cases c9 : t219 = true
        · subst c9
          have H1 : ((glossatorlaw3_graphExample.f k).bind fun t220 => (if t220 = true then (if t216 = 8 then (some ((t215.length : Int) == 0)) else (some false)) else (some false))) = some r := by rw [if_pos rfl] at H; exact H
          clear H
          have H := H1
          clear H1
          replace H := Option.bind_eq_some_iff.mp H
          obtain ⟨t220, A100, H⟩ := H
          replace H : (if t220 = true then (if t216 = 8 then (some ((t215.length : Int) == 0)) else (some false)) else (some false)) = some r := H
          have A10 := Aside0.mk A100
          clear A100
          by_cases c11 : t220 = true
          · subst c11
            have H1 : (if t216 = 8 then (some ((t215.length : Int) == 0)) else (some false)) = some r := by rw [if_pos rfl] at H; exact H
            clear H
            have H := H1
            clear H1
            by_cases c12 : t216 = 8
            · rw [if_pos c12] at H
              have c12b0 : (t216 == 8) = true := beq_iff_eq.mpr c12
              have c12b1 : (t216 != 8) = false := bne_eq_false_iff_eq.mpr c12
              clear c12
              obtain rfl := Option.some.inj H
              go_enter Try.func4, Try.ntmps4
              go_wp2_with (first | ((with_reducible refine gate_callee (f := 7) rfl ?_); refine goesL_ (some 5) rfl rfl Try.func7 (by kernel_rfl) rfl #[] rfl (by (try simp only [List.map_toArray, List.map_cons, List.map_nil]); first | done | rfl | (simp only [List.length_drop, List.length_take]; rfl)) ?_; (with_reducible refine (glossatorlaw3_graphExample.calls k  true _ A2.out).mono ?_); rintro e w13 ⟨rfl, hb⟩; refine ⟨_, rfl, ?_⟩; have n0_ := Aside0.mk (below_step (by repeat (first | (with_reducible first | exact HB.out | apply below_alloc | apply pw_below_drewN | apply below_drew1) | exact HB.out)) hb); clear HB; have HB := n0_; clear n0_; (try clear hb); (try clear hb2); (try clear hk); (try clear hi); have q14 : ((ji4) : Int) ≤ ((l0.length : Int) : Int) := of_decide_eq_true (by first | (with_reducible assumption) | assumption); obtain ⟨i014, hi014, _, hsz14, _⟩ := info_parts info44; have hroom14 : l0.length ≤ c0 := HC0.out; have hC14 : Kd.C k44 _ A0 l0.length l0 := HR0.out; have hcut14 := cut_to (P := Try.prog) 22 44 .i64 Try.underlying22 hi014 A0 l0.length c0 (ji4) (of_decide_eq_true (by first | (with_reducible assumption) | assumption)) q14 hroom14; have hr14 := Kd.C_take (m := ((ji4) : Int).toNat) hC14 (by omega); have hy14 : y211.length = ((ji4) : Int).toNat := (by rw [Ny211.out, List.length_take]; omega); rw [← Ny211.out] at hr14; rw [← hy14] at hcut14; have HR214 := Aside0.mk hr14; have HC214 := Aside0.mk (show y211.length ≤ c0 from by omega); clear hr14 hC14 hroom14 hi014 hsz14; have KY14 := Aside0.mk hy14; clear hy14; replace q14 := eq_true q14) | ((with_reducible refine gate_callee (f := 13) rfl ?_); refine goesL_ (some 14) rfl rfl Try.func13 (by kernel_rfl) rfl #[.slice A0 y211.length c0] rfl (by (try simp only [List.map_toArray, List.map_cons, List.map_nil]); first | done | rfl | (simp only [List.length_drop, List.length_take]; rfl)) ?_; (with_reducible refine (depgraph_TopologicalOrder.calls _ _ y211 t215 t216 _ ?side1 ?side2 A7.out).mono ?_); (case side1 => repeat (first | exact (Kd.C_below HR214.out HB.out) | (with_reducible refine Kd.C_alloc ?_ _) | (with_reducible refine Kd.C_drewN ?_ _) | (with_reducible refine Kd.C_drew ?_))); (case side2 => exact HC214.out); rintro e w15 ⟨v217, rfl, ho0, hb⟩; refine ⟨_, rfl, ?_⟩; have n0_ := Aside0.mk (Kd.R_lower ho0 (below_size (by repeat (first | (with_reducible first | exact HB.out | apply below_alloc | apply pw_below_drewN | apply below_drew1) | exact HB.out)))); have n1_ := Aside0.mk (below_step (by repeat (first | (with_reducible first | exact HB.out | apply below_alloc | apply pw_below_drewN | apply below_drew1) | exact HB.out)) hb); clear HB; have HO218 := n0_; have HB := n1_; clear n0_ n1_; (try clear hb); (try clear hb2); (try clear hk); (try clear hi); (try clear ho0)) | ((with_reducible refine gate_callee (f := 14) rfl ?_); refine goesL_ (some 18) rfl rfl Try.func14 (by kernel_rfl) rfl #[.slice A0 y211.length c0] rfl (by (try simp only [List.map_toArray, List.map_cons, List.map_nil]); first | done | rfl | (simp only [List.length_drop, List.length_take]; rfl)) ?_; (with_reducible refine (glossatorref3_Cyclic.calls k _ _ y211 true _ ?side1 ?side2 A8.out).mono ?_); (case side1 => repeat (first | exact (Kd.C_below HR214.out HB.out) | (with_reducible refine Kd.C_alloc ?_ _) | (with_reducible refine Kd.C_drewN ?_ _) | (with_reducible refine Kd.C_drew ?_))); (case side2 => exact HC214.out); rintro e w16 ⟨rfl, hb⟩; refine ⟨_, rfl, ?_⟩; have n0_ := Aside0.mk (Kd.R_below (by (with_reducible repeat (first | apply Kd.R_alloc | apply Kd.R_drewN | apply Kd.R_drew)); exact HO218.out) hb); have n1_ := Aside0.mk (below_step (by repeat (first | (with_reducible first | exact HB.out | apply below_alloc | apply pw_below_drewN | apply below_drew1) | exact HB.out)) hb); clear HO218; clear HB; have HO218 := n0_; have HB := n1_; clear n0_ n1_; (try clear hb); (try clear hb2); (try clear hk); (try clear hi)) | ((with_reducible refine gate_callee (f := 7) rfl ?_); refine goesL_ (some 19) rfl rfl Try.func7 (by kernel_rfl) rfl #[] rfl (by (try simp only [List.map_toArray, List.map_cons, List.map_nil]); first | done | rfl | (simp only [List.length_drop, List.length_take]; rfl)) ?_; (with_reducible refine (glossatorlaw3_graphExample.calls k  true _ A10.out).mono ?_); rintro e w17 ⟨rfl, hb⟩; refine ⟨_, rfl, ?_⟩; have n0_ := Aside0.mk (Kd.R_below (by (with_reducible repeat (first | apply Kd.R_alloc | apply Kd.R_drewN | apply Kd.R_drew)); exact HO218.out) hb); have n1_ := Aside0.mk (below_step (by repeat (first | (with_reducible first | exact HB.out | apply below_alloc | apply pw_below_drewN | apply below_drew1) | exact HB.out)) hb); clear HO218; clear HB; have HO218 := n0_; have HB := n1_; clear n0_ n1_; (try clear hb); (try clear hb2); (try clear hk); (try clear hi); obtain ⟨Ao18, co18, eo18⟩ := Kd.R_slice HO218.out; subst eo18))
              go_ret
              exact ⟨by first | rfl | (simp [errW_none, errW_some] <;> rfl) | (simp only [← hji4]; first | rfl | (simp [errW_none, errW_some] <;> rfl)) | (simp [*, errW_none, errW_some] <;> rfl), by repeat (first | (with_reducible first | exact HB.out | apply below_alloc | apply pw_below_drewN | apply below_drew1) | exact HB.out)⟩
            · rw [if_neg c12] at H
              have c12b0 : (t216 == 8) = false := beq_eq_false_iff_ne.mpr c12
              have c12b1 : (t216 != 8) = true := bne_iff_ne.mpr c12
              obtain rfl := Option.some.inj H
              go_enter Try.func4, Try.ntmps4
              go_wp2_with (first | ((with_reducible refine gate_callee (f := 7) rfl ?_); refine goesL_ (some 5) rfl rfl Try.func7 (by kernel_rfl) rfl #[] rfl (by (try simp only [List.map_toArray, List.map_cons, List.map_nil]); first | done | rfl | (simp only [List.length_drop, List.length_take]; rfl)) ?_; (with_reducible refine (glossatorlaw3_graphExample.calls k  true _ A2.out).mono ?_); rintro e w19 ⟨rfl, hb⟩; refine ⟨_, rfl, ?_⟩; have n0_ := Aside0.mk (below_step (by repeat (first | (with_reducible first | exact HB.out | apply below_alloc | apply pw_below_drewN | apply below_drew1) | exact HB.out)) hb); clear HB; have HB := n0_; clear n0_; (try clear hb); (try clear hb2); (try clear hk); (try clear hi); have q20 : ((ji4) : Int) ≤ ((l0.length : Int) : Int) := of_decide_eq_true (by first | (with_reducible assumption) | assumption); obtain ⟨i020, hi020, _, hsz20, _⟩ := info_parts info44; have hroom20 : l0.length ≤ c0 := HC0.out; have hC20 : Kd.C k44 _ A0 l0.length l0 := HR0.out; have hcut20 := cut_to (P := Try.prog) 22 44 .i64 Try.underlying22 hi020 A0 l0.length c0 (ji4) (of_decide_eq_true (by first | (with_reducible assumption) | assumption)) q20 hroom20; have hr20 := Kd.C_take (m := ((ji4) : Int).toNat) hC20 (by omega); have hy20 : y211.length = ((ji4) : Int).toNat := (by rw [Ny211.out, List.length_take]; omega); rw [← Ny211.out] at hr20; rw [← hy20] at hcut20; have HR214 := Aside0.mk hr20; have HC214 := Aside0.mk (show y211.length ≤ c0 from by omega); clear hr20 hC20 hroom20 hi020 hsz20; have KY20 := Aside0.mk hy20; clear hy20; replace q20 := eq_true q20) | ((with_reducible refine gate_callee (f := 13) rfl ?_); refine goesL_ (some 14) rfl rfl Try.func13 (by kernel_rfl) rfl #[.slice A0 y211.length c0] rfl (by (try simp only [List.map_toArray, List.map_cons, List.map_nil]); first | done | rfl | (simp only [List.length_drop, List.length_take]; rfl)) ?_; (with_reducible refine (depgraph_TopologicalOrder.calls _ _ y211 t215 t216 _ ?side1 ?side2 A7.out).mono ?_); (case side1 => repeat (first | exact (Kd.C_below HR214.out HB.out) | (with_reducible refine Kd.C_alloc ?_ _) | (with_reducible refine Kd.C_drewN ?_ _) | (with_reducible refine Kd.C_drew ?_))); (case side2 => exact HC214.out); rintro e w21 ⟨v217, rfl, ho0, hb⟩; refine ⟨_, rfl, ?_⟩; have n0_ := Aside0.mk (Kd.R_lower ho0 (below_size (by repeat (first | (with_reducible first | exact HB.out | apply below_alloc | apply pw_below_drewN | apply below_drew1) | exact HB.out)))); have n1_ := Aside0.mk (below_step (by repeat (first | (with_reducible first | exact HB.out | apply below_alloc | apply pw_below_drewN | apply below_drew1) | exact HB.out)) hb); clear HB; have HO218 := n0_; have HB := n1_; clear n0_ n1_; (try clear hb); (try clear hb2); (try clear hk); (try clear hi); (try clear ho0)) | ((with_reducible refine gate_callee (f := 14) rfl ?_); refine goesL_ (some 18) rfl rfl Try.func14 (by kernel_rfl) rfl #[.slice A0 y211.length c0] rfl (by (try simp only [List.map_toArray, List.map_cons, List.map_nil]); first | done | rfl | (simp only [List.length_drop, List.length_take]; rfl)) ?_; (with_reducible refine (glossatorref3_Cyclic.calls k _ _ y211 true _ ?side1 ?side2 A8.out).mono ?_); (case side1 => repeat (first | exact (Kd.C_below HR214.out HB.out) | (with_reducible refine Kd.C_alloc ?_ _) | (with_reducible refine Kd.C_drewN ?_ _) | (with_reducible refine Kd.C_drew ?_))); (case side2 => exact HC214.out); rintro e w22 ⟨rfl, hb⟩; refine ⟨_, rfl, ?_⟩; have n0_ := Aside0.mk (Kd.R_below (by (with_reducible repeat (first | apply Kd.R_alloc | apply Kd.R_drewN | apply Kd.R_drew)); exact HO218.out) hb); have n1_ := Aside0.mk (below_step (by repeat (first | (with_reducible first | exact HB.out | apply below_alloc | apply pw_below_drewN | apply below_drew1) | exact HB.out)) hb); clear HO218; clear HB; have HO218 := n0_; have HB := n1_; clear n0_ n1_; (try clear hb); (try clear hb2); (try clear hk); (try clear hi)) | ((with_reducible refine gate_callee (f := 7) rfl ?_); refine goesL_ (some 19) rfl rfl Try.func7 (by kernel_rfl) rfl #[] rfl (by (try simp only [List.map_toArray, List.map_cons, List.map_nil]); first | done | rfl | (simp only [List.length_drop, List.length_take]; rfl)) ?_; (with_reducible refine (glossatorlaw3_graphExample.calls k  true _ A10.out).mono ?_); rintro e w23 ⟨rfl, hb⟩; refine ⟨_, rfl, ?_⟩; have n0_ := Aside0.mk (Kd.R_below (by (with_reducible repeat (first | apply Kd.R_alloc | apply Kd.R_drewN | apply Kd.R_drew)); exact HO218.out) hb); have n1_ := Aside0.mk (below_step (by repeat (first | (with_reducible first | exact HB.out | apply below_alloc | apply pw_below_drewN | apply below_drew1) | exact HB.out)) hb); clear HO218; clear HB; have HO218 := n0_; have HB := n1_; clear n0_ n1_; (try clear hb); (try clear hb2); (try clear hk); (try clear hi)))
              go_ret
              exact ⟨by first | rfl | (simp [errW_none, errW_some] <;> rfl) | (simp only [← hji4]; first | rfl | (simp [errW_none, errW_some] <;> rfl)) | (simp [*, errW_none, errW_some] <;> rfl), by repeat (first | (with_reducible first | exact HB.out | apply below_alloc | apply pw_below_drewN | apply below_drew1) | exact HB.out)⟩
          · replace c11 := Bool.eq_false_iff.mpr c11
            subst c11
            have H1 : (some false) = some r := by rw [if_neg (show ¬ (false = true) by decide)] at H; exact H
            clear H
            have H := H1
            clear H1
            obtain rfl := Option.some.inj H
            go_enter Try.func4, Try.ntmps4
            go_wp2_with (first | ((with_reducible refine gate_callee (f := 7) rfl ?_); refine goesL_ (some 5) rfl rfl Try.func7 (by kernel_rfl) rfl #[] rfl (by (try simp only [List.map_toArray, List.map_cons, List.map_nil]); first | done | rfl | (simp only [List.length_drop, List.length_take]; rfl)) ?_; (with_reducible refine (glossatorlaw3_graphExample.calls k  true _ A2.out).mono ?_); rintro e w24 ⟨rfl, hb⟩; refine ⟨_, rfl, ?_⟩; have n0_ := Aside0.mk (below_step (by repeat (first | (with_reducible first | exact HB.out | apply below_alloc | apply pw_below_drewN | apply below_drew1) | exact HB.out)) hb); clear HB; have HB := n0_; clear n0_; (try clear hb); (try clear hb2); (try clear hk); (try clear hi); have q25 : ((ji4) : Int) ≤ ((l0.length : Int) : Int) := of_decide_eq_true (by first | (with_reducible assumption) | assumption); obtain ⟨i025, hi025, _, hsz25, _⟩ := info_parts info44; have hroom25 : l0.length ≤ c0 := HC0.out; have hC25 : Kd.C k44 _ A0 l0.length l0 := HR0.out; have hcut25 := cut_to (P := Try.prog) 22 44 .i64 Try.underlying22 hi025 A0 l0.length c0 (ji4) (of_decide_eq_true (by first | (with_reducible assumption) | assumption)) q25 hroom25; have hr25 := Kd.C_take (m := ((ji4) : Int).toNat) hC25 (by omega); have hy25 : y211.length = ((ji4) : Int).toNat := (by rw [Ny211.out, List.length_take]; omega); rw [← Ny211.out] at hr25; rw [← hy25] at hcut25; have HR214 := Aside0.mk hr25; have HC214 := Aside0.mk (show y211.length ≤ c0 from by omega); clear hr25 hC25 hroom25 hi025 hsz25; have KY25 := Aside0.mk hy25; clear hy25; replace q25 := eq_true q25) | ((with_reducible refine gate_callee (f := 13) rfl ?_); refine goesL_ (some 14) rfl rfl Try.func13 (by kernel_rfl) rfl #[.slice A0 y211.length c0] rfl (by (try simp only [List.map_toArray, List.map_cons, List.map_nil]); first | done | rfl | (simp only [List.length_drop, List.length_take]; rfl)) ?_; (with_reducible refine (depgraph_TopologicalOrder.calls _ _ y211 t215 t216 _ ?side1 ?side2 A7.out).mono ?_); (case side1 => repeat (first | exact (Kd.C_below HR214.out HB.out) | (with_reducible refine Kd.C_alloc ?_ _) | (with_reducible refine Kd.C_drewN ?_ _) | (with_reducible refine Kd.C_drew ?_))); (case side2 => exact HC214.out); rintro e w26 ⟨v217, rfl, ho0, hb⟩; refine ⟨_, rfl, ?_⟩; have n0_ := Aside0.mk (Kd.R_lower ho0 (below_size (by repeat (first | (with_reducible first | exact HB.out | apply below_alloc | apply pw_below_drewN | apply below_drew1) | exact HB.out)))); have n1_ := Aside0.mk (below_step (by repeat (first | (with_reducible first | exact HB.out | apply below_alloc | apply pw_below_drewN | apply below_drew1) | exact HB.out)) hb); clear HB; have HO218 := n0_; have HB := n1_; clear n0_ n1_; (try clear hb); (try clear hb2); (try clear hk); (try clear hi); (try clear ho0)) | ((with_reducible refine gate_callee (f := 14) rfl ?_); refine goesL_ (some 18) rfl rfl Try.func14 (by kernel_rfl) rfl #[.slice A0 y211.length c0] rfl (by (try simp only [List.map_toArray, List.map_cons, List.map_nil]); first | done | rfl | (simp only [List.length_drop, List.length_take]; rfl)) ?_; (with_reducible refine (glossatorref3_Cyclic.calls k _ _ y211 true _ ?side1 ?side2 A8.out).mono ?_); (case side1 => repeat (first | exact (Kd.C_below HR214.out HB.out) | (with_reducible refine Kd.C_alloc ?_ _) | (with_reducible refine Kd.C_drewN ?_ _) | (with_reducible refine Kd.C_drew ?_))); (case side2 => exact HC214.out); rintro e w27 ⟨rfl, hb⟩; refine ⟨_, rfl, ?_⟩; have n0_ := Aside0.mk (Kd.R_below (by (with_reducible repeat (first | apply Kd.R_alloc | apply Kd.R_drewN | apply Kd.R_drew)); exact HO218.out) hb); have n1_ := Aside0.mk (below_step (by repeat (first | (with_reducible first | exact HB.out | apply below_alloc | apply pw_below_drewN | apply below_drew1) | exact HB.out)) hb); clear HO218; clear HB; have HO218 := n0_; have HB := n1_; clear n0_ n1_; (try clear hb); (try clear hb2); (try clear hk); (try clear hi)) | ((with_reducible refine gate_callee (f := 7) rfl ?_); refine goesL_ (some 19) rfl rfl Try.func7 (by kernel_rfl) rfl #[] rfl (by (try simp only [List.map_toArray, List.map_cons, List.map_nil]); first | done | rfl | (simp only [List.length_drop, List.length_take]; rfl)) ?_; (with_reducible refine (glossatorlaw3_graphExample.calls k  false _ A10.out).mono ?_); rintro e w28 ⟨rfl, hb⟩; refine ⟨_, rfl, ?_⟩; have n0_ := Aside0.mk (Kd.R_below (by (with_reducible repeat (first | apply Kd.R_alloc | apply Kd.R_drewN | apply Kd.R_drew)); exact HO218.out) hb); have n1_ := Aside0.mk (below_step (by repeat (first | (with_reducible first | exact HB.out | apply below_alloc | apply pw_below_drewN | apply below_drew1) | exact HB.out)) hb); clear HO218; clear HB; have HO218 := n0_; have HB := n1_; clear n0_ n1_; (try clear hb); (try clear hb2); (try clear hk); (try clear hi)))
            go_ret
            exact ⟨by first | rfl | (simp [errW_none, errW_some] <;> rfl) | (simp only [← hji4]; first | rfl | (simp [errW_none, errW_some] <;> rfl)) | (simp [*, errW_none, errW_some] <;> rfl), by repeat (first | (with_reducible first | exact HB.out | apply below_alloc | apply pw_below_drewN | apply below_drew1) | exact HB.out)⟩
        · replace c9 := Bool.eq_false_iff.mpr c9
          subst c9
          have H1 : ((glossatorlaw3_graphExample.f k).bind fun t221 => (if t221 = true then (if t216 = 0 then ((glossatorref3_Order.f k y211).bind fun t222 => ((api_QKey_8.f k t215 t222).bind fun t225 => (some t225))) else (some false)) else (some false))) = some r := by rw [if_neg (show ¬ (false = true) by decide)] at H; exact H
          clear H
          have H := H1
          clear H1
          replace H := Option.bind_eq_some_iff.mp H
          obtain ⟨t221, A290, H⟩ := H
          replace H : (if t221 = true then (if t216 = 0 then ((glossatorref3_Order.f k y211).bind fun t222 => ((api_QKey_8.f k t215 t222).bind fun t225 => (some t225))) else (some false)) else (some false)) = some r := H
          have A29 := Aside0.mk A290
          clear A290
          by_cases c30 : t221 = true
          · subst c30
            have H1 : (if t216 = 0 then ((glossatorref3_Order.f k y211).bind fun t222 => ((api_QKey_8.f k t215 t222).bind fun t225 => (some t225))) else (some false)) = some r := by rw [if_pos rfl] at H; exact H
            clear H
            have H := H1
            clear H1
            by_cases c31 : t216 = 0
            · rw [if_pos c31] at H
              have c31b0 : (t216 == 0) = true := beq_iff_eq.mpr c31
              have c31b1 : (t216 != 0) = false := bne_eq_false_iff_eq.mpr c31
              clear c31
              replace H := Option.bind_eq_some_iff.mp H
              obtain ⟨t222, A320, H⟩ := H
              replace H : ((api_QKey_8.f k t215 t222).bind fun t225 => (some t225)) = some r := H
              have A32 := Aside0.mk A320
              clear A320
              replace H := Option.bind_eq_some_iff.mp H
              obtain ⟨t225, A330, H⟩ := H
              replace H : (some t225) = some r := H
              have A33 := Aside0.mk A330
              clear A330
              obtain rfl := Option.some.inj H
              go_enter Try.func4, Try.ntmps4
              go_wp2_with (first | ((with_reducible refine gate_callee (f := 7) rfl ?_); refine goesL_ (some 5) rfl rfl Try.func7 (by kernel_rfl) rfl #[] rfl (by (try simp only [List.map_toArray, List.map_cons, List.map_nil]); first | done | rfl | (simp only [List.length_drop, List.length_take]; rfl)) ?_; (with_reducible refine (glossatorlaw3_graphExample.calls k  true _ A2.out).mono ?_); rintro e w34 ⟨rfl, hb⟩; refine ⟨_, rfl, ?_⟩; have n0_ := Aside0.mk (below_step (by repeat (first | (with_reducible first | exact HB.out | apply below_alloc | apply pw_below_drewN | apply below_drew1) | exact HB.out)) hb); clear HB; have HB := n0_; clear n0_; (try clear hb); (try clear hb2); (try clear hk); (try clear hi); have q35 : ((ji4) : Int) ≤ ((l0.length : Int) : Int) := of_decide_eq_true (by first | (with_reducible assumption) | assumption); obtain ⟨i035, hi035, _, hsz35, _⟩ := info_parts info44; have hroom35 : l0.length ≤ c0 := HC0.out; have hC35 : Kd.C k44 _ A0 l0.length l0 := HR0.out; have hcut35 := cut_to (P := Try.prog) 22 44 .i64 Try.underlying22 hi035 A0 l0.length c0 (ji4) (of_decide_eq_true (by first | (with_reducible assumption) | assumption)) q35 hroom35; have hr35 := Kd.C_take (m := ((ji4) : Int).toNat) hC35 (by omega); have hy35 : y211.length = ((ji4) : Int).toNat := (by rw [Ny211.out, List.length_take]; omega); rw [← Ny211.out] at hr35; rw [← hy35] at hcut35; have HR214 := Aside0.mk hr35; have HC214 := Aside0.mk (show y211.length ≤ c0 from by omega); clear hr35 hC35 hroom35 hi035 hsz35; have KY35 := Aside0.mk hy35; clear hy35; replace q35 := eq_true q35) | ((with_reducible refine gate_callee (f := 13) rfl ?_); refine goesL_ (some 14) rfl rfl Try.func13 (by kernel_rfl) rfl #[.slice A0 y211.length c0] rfl (by (try simp only [List.map_toArray, List.map_cons, List.map_nil]); first | done | rfl | (simp only [List.length_drop, List.length_take]; rfl)) ?_; (with_reducible refine (depgraph_TopologicalOrder.calls _ _ y211 t215 t216 _ ?side1 ?side2 A7.out).mono ?_); (case side1 => repeat (first | exact (Kd.C_below HR214.out HB.out) | (with_reducible refine Kd.C_alloc ?_ _) | (with_reducible refine Kd.C_drewN ?_ _) | (with_reducible refine Kd.C_drew ?_))); (case side2 => exact HC214.out); rintro e w36 ⟨v217, rfl, ho0, hb⟩; refine ⟨_, rfl, ?_⟩; have n0_ := Aside0.mk (Kd.R_lower ho0 (below_size (by repeat (first | (with_reducible first | exact HB.out | apply below_alloc | apply pw_below_drewN | apply below_drew1) | exact HB.out)))); have n1_ := Aside0.mk (below_step (by repeat (first | (with_reducible first | exact HB.out | apply below_alloc | apply pw_below_drewN | apply below_drew1) | exact HB.out)) hb); clear HB; have HO218 := n0_; have HB := n1_; clear n0_ n1_; (try clear hb); (try clear hb2); (try clear hk); (try clear hi); (try clear ho0)) | ((with_reducible refine gate_callee (f := 14) rfl ?_); refine goesL_ (some 18) rfl rfl Try.func14 (by kernel_rfl) rfl #[.slice A0 y211.length c0] rfl (by (try simp only [List.map_toArray, List.map_cons, List.map_nil]); first | done | rfl | (simp only [List.length_drop, List.length_take]; rfl)) ?_; (with_reducible refine (glossatorref3_Cyclic.calls k _ _ y211 false _ ?side1 ?side2 A8.out).mono ?_); (case side1 => repeat (first | exact (Kd.C_below HR214.out HB.out) | (with_reducible refine Kd.C_alloc ?_ _) | (with_reducible refine Kd.C_drewN ?_ _) | (with_reducible refine Kd.C_drew ?_))); (case side2 => exact HC214.out); rintro e w37 ⟨rfl, hb⟩; refine ⟨_, rfl, ?_⟩; have n0_ := Aside0.mk (Kd.R_below (by (with_reducible repeat (first | apply Kd.R_alloc | apply Kd.R_drewN | apply Kd.R_drew)); exact HO218.out) hb); have n1_ := Aside0.mk (below_step (by repeat (first | (with_reducible first | exact HB.out | apply below_alloc | apply pw_below_drewN | apply below_drew1) | exact HB.out)) hb); clear HO218; clear HB; have HO218 := n0_; have HB := n1_; clear n0_ n1_; (try clear hb); (try clear hb2); (try clear hk); (try clear hi)) | ((with_reducible refine gate_callee (f := 7) rfl ?_); refine goesL_ (some 29) rfl rfl Try.func7 (by kernel_rfl) rfl #[] rfl (by (try simp only [List.map_toArray, List.map_cons, List.map_nil]); first | done | rfl | (simp only [List.length_drop, List.length_take]; rfl)) ?_; (with_reducible refine (glossatorlaw3_graphExample.calls k  true _ A29.out).mono ?_); rintro e w38 ⟨rfl, hb⟩; refine ⟨_, rfl, ?_⟩; have n0_ := Aside0.mk (Kd.R_below (by (with_reducible repeat (first | apply Kd.R_alloc | apply Kd.R_drewN | apply Kd.R_drew)); exact HO218.out) hb); have n1_ := Aside0.mk (below_step (by repeat (first | (with_reducible first | exact HB.out | apply below_alloc | apply pw_below_drewN | apply below_drew1) | exact HB.out)) hb); clear HO218; clear HB; have HO218 := n0_; have HB := n1_; clear n0_ n1_; (try clear hb); (try clear hb2); (try clear hk); (try clear hi)) | (go_at_call 15; (with_reducible refine (glossatorref3_Order.calls k _ _ y211 t222 _ ?side1 ?side2 A32.out).mono ?_); (case side1 => repeat (first | exact (Kd.C_below HR214.out HB.out) | (with_reducible refine Kd.C_alloc ?_ _) | (with_reducible refine Kd.C_drewN ?_ _) | (with_reducible refine Kd.C_drew ?_))); (case side2 => exact HC214.out); rintro e w39 ⟨v223, rfl, ho0, hb⟩; have n0_ := Aside0.mk (Kd.R_elder' (by (with_reducible repeat (first | apply Kd.R_alloc | apply Kd.R_drewN | apply Kd.R_drew)); exact HO218.out) (Kd.R_base ho0) hb); have n1_ := Aside0.mk (Kd.R_lower (Kd.R_new' ho0 (Kd.R_lt (by (with_reducible repeat (first | apply Kd.R_alloc | apply Kd.R_drewN | apply Kd.R_drew)); exact HO218.out))) (below_size (by repeat (first | (with_reducible first | exact HB.out | apply below_alloc | apply pw_below_drewN | apply below_drew1) | exact HB.out)))); have n2_ := Aside0.mk (below_step (by repeat (first | (with_reducible first | exact HB.out | apply below_alloc | apply pw_below_drewN | apply below_drew1) | exact HB.out)) hb); clear HO218; clear HB; have HO218 := n0_; have HO224 := n1_; have HB := n2_; clear n0_ n1_ n2_; (try clear hb); (try clear hb2); (try clear hk); (try clear hi); (try clear ho0); obtain ⟨Ao40, co40, eo40⟩ := Kd.R_slice HO218.out; subst eo40; obtain ⟨Ao41, co41, eo41⟩ := Kd.R_slice HO224.out; subst eo41) | (go_at_call 8; (with_reducible refine (api_QKey_8.calls k _ _ t215 _ _ t222 t225 _ ?side1 ?side2 ?side3 ?side4 A33.out).mono ?_); (case side1 => repeat (first | exact (Kd.R_reads' HO218.out).2.2 | (with_reducible refine Kd.C_alloc ?_ _) | (with_reducible refine Kd.C_drewN ?_ _) | (with_reducible refine Kd.C_drew ?_))); (case side2 => exact (Kd.R_reads' HO218.out).2.1); (case side3 => repeat (first | exact (Kd.R_reads' HO224.out).2.2 | (with_reducible refine Kd.C_alloc ?_ _) | (with_reducible refine Kd.C_drewN ?_ _) | (with_reducible refine Kd.C_drew ?_))); (case side4 => exact (Kd.R_reads' HO224.out).2.1); rintro e w42 ⟨rfl, hb⟩; have n0_ := Aside0.mk (Kd.R_below (by (with_reducible repeat (first | apply Kd.R_alloc | apply Kd.R_drewN | apply Kd.R_drew)); exact HO218.out) hb); have n1_ := Aside0.mk (Kd.R_below (by (with_reducible repeat (first | apply Kd.R_alloc | apply Kd.R_drewN | apply Kd.R_drew)); exact HO224.out) hb); have n2_ := Aside0.mk (below_step (by repeat (first | (with_reducible first | exact HB.out | apply below_alloc | apply pw_below_drewN | apply below_drew1) | exact HB.out)) hb); clear HO218; clear HO224; clear HB; have HO218 := n0_; have HO224 := n1_; have HB := n2_; clear n0_ n1_ n2_; (try clear hb); (try clear hb2); (try clear hk); (try clear hi)))
              go_ret
              exact ⟨by first | rfl | (simp [errW_none, errW_some] <;> rfl) | (simp only [← hji4]; first | rfl | (simp [errW_none, errW_some] <;> rfl)) | (simp [*, errW_none, errW_some] <;> rfl), by repeat (first | (with_reducible first | exact HB.out | apply below_alloc | apply pw_below_drewN | apply below_drew1) | exact HB.out)⟩
            · rw [if_neg c31] at H
              have c31b0 : (t216 == 0) = false := beq_eq_false_iff_ne.mpr c31
              have c31b1 : (t216 != 0) = true := bne_iff_ne.mpr c31
              obtain rfl := Option.some.inj H
              go_enter Try.func4, Try.ntmps4
              go_wp2_with (first | ((with_reducible refine gate_callee (f := 7) rfl ?_); refine goesL_ (some 5) rfl rfl Try.func7 (by kernel_rfl) rfl #[] rfl (by (try simp only [List.map_toArray, List.map_cons, List.map_nil]); first | done | rfl | (simp only [List.length_drop, List.length_take]; rfl)) ?_; (with_reducible refine (glossatorlaw3_graphExample.calls k  true _ A2.out).mono ?_); rintro e w43 ⟨rfl, hb⟩; refine ⟨_, rfl, ?_⟩; have n0_ := Aside0.mk (below_step (by repeat (first | (with_reducible first | exact HB.out | apply below_alloc | apply pw_below_drewN | apply below_drew1) | exact HB.out)) hb); clear HB; have HB := n0_; clear n0_; (try clear hb); (try clear hb2); (try clear hk); (try clear hi); have q44 : ((ji4) : Int) ≤ ((l0.length : Int) : Int) := of_decide_eq_true (by first | (with_reducible assumption) | assumption); obtain ⟨i044, hi044, _, hsz44, _⟩ := info_parts info44; have hroom44 : l0.length ≤ c0 := HC0.out; have hC44 : Kd.C k44 _ A0 l0.length l0 := HR0.out; have hcut44 := cut_to (P := Try.prog) 22 44 .i64 Try.underlying22 hi044 A0 l0.length c0 (ji4) (of_decide_eq_true (by first | (with_reducible assumption) | assumption)) q44 hroom44; have hr44 := Kd.C_take (m := ((ji4) : Int).toNat) hC44 (by omega); have hy44 : y211.length = ((ji4) : Int).toNat := (by rw [Ny211.out, List.length_take]; omega); rw [← Ny211.out] at hr44; rw [← hy44] at hcut44; have HR214 := Aside0.mk hr44; have HC214 := Aside0.mk (show y211.length ≤ c0 from by omega); clear hr44 hC44 hroom44 hi044 hsz44; have KY44 := Aside0.mk hy44; clear hy44; replace q44 := eq_true q44) | ((with_reducible refine gate_callee (f := 13) rfl ?_); refine goesL_ (some 14) rfl rfl Try.func13 (by kernel_rfl) rfl #[.slice A0 y211.length c0] rfl (by (try simp only [List.map_toArray, List.map_cons, List.map_nil]); first | done | rfl | (simp only [List.length_drop, List.length_take]; rfl)) ?_; (with_reducible refine (depgraph_TopologicalOrder.calls _ _ y211 t215 t216 _ ?side1 ?side2 A7.out).mono ?_); (case side1 => repeat (first | exact (Kd.C_below HR214.out HB.out) | (with_reducible refine Kd.C_alloc ?_ _) | (with_reducible refine Kd.C_drewN ?_ _) | (with_reducible refine Kd.C_drew ?_))); (case side2 => exact HC214.out); rintro e w45 ⟨v217, rfl, ho0, hb⟩; refine ⟨_, rfl, ?_⟩; have n0_ := Aside0.mk (Kd.R_lower ho0 (below_size (by repeat (first | (with_reducible first | exact HB.out | apply below_alloc | apply pw_below_drewN | apply below_drew1) | exact HB.out)))); have n1_ := Aside0.mk (below_step (by repeat (first | (with_reducible first | exact HB.out | apply below_alloc | apply pw_below_drewN | apply below_drew1) | exact HB.out)) hb); clear HB; have HO218 := n0_; have HB := n1_; clear n0_ n1_; (try clear hb); (try clear hb2); (try clear hk); (try clear hi); (try clear ho0)) | ((with_reducible refine gate_callee (f := 14) rfl ?_); refine goesL_ (some 18) rfl rfl Try.func14 (by kernel_rfl) rfl #[.slice A0 y211.length c0] rfl (by (try simp only [List.map_toArray, List.map_cons, List.map_nil]); first | done | rfl | (simp only [List.length_drop, List.length_take]; rfl)) ?_; (with_reducible refine (glossatorref3_Cyclic.calls k _ _ y211 false _ ?side1 ?side2 A8.out).mono ?_); (case side1 => repeat (first | exact (Kd.C_below HR214.out HB.out) | (with_reducible refine Kd.C_alloc ?_ _) | (with_reducible refine Kd.C_drewN ?_ _) | (with_reducible refine Kd.C_drew ?_))); (case side2 => exact HC214.out); rintro e w46 ⟨rfl, hb⟩; refine ⟨_, rfl, ?_⟩; have n0_ := Aside0.mk (Kd.R_below (by (with_reducible repeat (first | apply Kd.R_alloc | apply Kd.R_drewN | apply Kd.R_drew)); exact HO218.out) hb); have n1_ := Aside0.mk (below_step (by repeat (first | (with_reducible first | exact HB.out | apply below_alloc | apply pw_below_drewN | apply below_drew1) | exact HB.out)) hb); clear HO218; clear HB; have HO218 := n0_; have HB := n1_; clear n0_ n1_; (try clear hb); (try clear hb2); (try clear hk); (try clear hi)) | ((with_reducible refine gate_callee (f := 7) rfl ?_); refine goesL_ (some 29) rfl rfl Try.func7 (by kernel_rfl) rfl #[] rfl (by (try simp only [List.map_toArray, List.map_cons, List.map_nil]); first | done | rfl | (simp only [List.length_drop, List.length_take]; rfl)) ?_; (with_reducible refine (glossatorlaw3_graphExample.calls k  true _ A29.out).mono ?_); rintro e w47 ⟨rfl, hb⟩; refine ⟨_, rfl, ?_⟩; have n0_ := Aside0.mk (Kd.R_below (by (with_reducible repeat (first | apply Kd.R_alloc | apply Kd.R_drewN | apply Kd.R_drew)); exact HO218.out) hb); have n1_ := Aside0.mk (below_step (by repeat (first | (with_reducible first | exact HB.out | apply below_alloc | apply pw_below_drewN | apply below_drew1) | exact HB.out)) hb); clear HO218; clear HB; have HO218 := n0_; have HB := n1_; clear n0_ n1_; (try clear hb); (try clear hb2); (try clear hk); (try clear hi)))
              go_ret
              exact ⟨by first | rfl | (simp [errW_none, errW_some] <;> rfl) | (simp only [← hji4]; first | rfl | (simp [errW_none, errW_some] <;> rfl)) | (simp [*, errW_none, errW_some] <;> rfl), by repeat (first | (with_reducible first | exact HB.out | apply below_alloc | apply pw_below_drewN | apply below_drew1) | exact HB.out)⟩
          · replace c30 := Bool.eq_false_iff.mpr c30
            subst c30
            have H1 : (some false) = some r := by rw [if_neg (show ¬ (false = true) by decide)] at H; exact H
            clear H
            have H := H1
            clear H1
            obtain rfl := Option.some.inj H
            go_enter Try.func4, Try.ntmps4
            go_wp2_with (first | ((with_reducible refine gate_callee (f := 7) rfl ?_); refine goesL_ (some 5) rfl rfl Try.func7 (by kernel_rfl) rfl #[] rfl (by (try simp only [List.map_toArray, List.map_cons, List.map_nil]); first | done | rfl | (simp only [List.length_drop, List.length_take]; rfl)) ?_; (with_reducible refine (glossatorlaw3_graphExample.calls k  true _ A2.out).mono ?_); rintro e w48 ⟨rfl, hb⟩; refine ⟨_, rfl, ?_⟩; have n0_ := Aside0.mk (below_step (by repeat (first | (with_reducible first | exact HB.out | apply below_alloc | apply pw_below_drewN | apply below_drew1) | exact HB.out)) hb); clear HB; have HB := n0_; clear n0_; (try clear hb); (try clear hb2); (try clear hk); (try clear hi); have q49 : ((ji4) : Int) ≤ ((l0.length : Int) : Int) := of_decide_eq_true (by first | (with_reducible assumption) | assumption); obtain ⟨i049, hi049, _, hsz49, _⟩ := info_parts info44; have hroom49 : l0.length ≤ c0 := HC0.out; have hC49 : Kd.C k44 _ A0 l0.length l0 := HR0.out; have hcut49 := cut_to (P := Try.prog) 22 44 .i64 Try.underlying22 hi049 A0 l0.length c0 (ji4) (of_decide_eq_true (by first | (with_reducible assumption) | assumption)) q49 hroom49; have hr49 := Kd.C_take (m := ((ji4) : Int).toNat) hC49 (by omega); have hy49 : y211.length = ((ji4) : Int).toNat := (by rw [Ny211.out, List.length_take]; omega); rw [← Ny211.out] at hr49; rw [← hy49] at hcut49; have HR214 := Aside0.mk hr49; have HC214 := Aside0.mk (show y211.length ≤ c0 from by omega); clear hr49 hC49 hroom49 hi049 hsz49; have KY49 := Aside0.mk hy49; clear hy49; replace q49 := eq_true q49) | ((with_reducible refine gate_callee (f := 13) rfl ?_); refine goesL_ (some 14) rfl rfl Try.func13 (by kernel_rfl) rfl #[.slice A0 y211.length c0] rfl (by (try simp only [List.map_toArray, List.map_cons, List.map_nil]); first | done | rfl | (simp only [List.length_drop, List.length_take]; rfl)) ?_; (with_reducible refine (depgraph_TopologicalOrder.calls _ _ y211 t215 t216 _ ?side1 ?side2 A7.out).mono ?_); (case side1 => repeat (first | exact (Kd.C_below HR214.out HB.out) | (with_reducible refine Kd.C_alloc ?_ _) | (with_reducible refine Kd.C_drewN ?_ _) | (with_reducible refine Kd.C_drew ?_))); (case side2 => exact HC214.out); rintro e w50 ⟨v217, rfl, ho0, hb⟩; refine ⟨_, rfl, ?_⟩; have n0_ := Aside0.mk (Kd.R_lower ho0 (below_size (by repeat (first | (with_reducible first | exact HB.out | apply below_alloc | apply pw_below_drewN | apply below_drew1) | exact HB.out)))); have n1_ := Aside0.mk (below_step (by repeat (first | (with_reducible first | exact HB.out | apply below_alloc | apply pw_below_drewN | apply below_drew1) | exact HB.out)) hb); clear HB; have HO218 := n0_; have HB := n1_; clear n0_ n1_; (try clear hb); (try clear hb2); (try clear hk); (try clear hi); (try clear ho0)) | ((with_reducible refine gate_callee (f := 14) rfl ?_); refine goesL_ (some 18) rfl rfl Try.func14 (by kernel_rfl) rfl #[.slice A0 y211.length c0] rfl (by (try simp only [List.map_toArray, List.map_cons, List.map_nil]); first | done | rfl | (simp only [List.length_drop, List.length_take]; rfl)) ?_; (with_reducible refine (glossatorref3_Cyclic.calls k _ _ y211 false _ ?side1 ?side2 A8.out).mono ?_); (case side1 => repeat (first | exact (Kd.C_below HR214.out HB.out) | (with_reducible refine Kd.C_alloc ?_ _) | (with_reducible refine Kd.C_drewN ?_ _) | (with_reducible refine Kd.C_drew ?_))); (case side2 => exact HC214.out); rintro e w51 ⟨rfl, hb⟩; refine ⟨_, rfl, ?_⟩; have n0_ := Aside0.mk (Kd.R_below (by (with_reducible repeat (first | apply Kd.R_alloc | apply Kd.R_drewN | apply Kd.R_drew)); exact HO218.out) hb); have n1_ := Aside0.mk (below_step (by repeat (first | (with_reducible first | exact HB.out | apply below_alloc | apply pw_below_drewN | apply below_drew1) | exact HB.out)) hb); clear HO218; clear HB; have HO218 := n0_; have HB := n1_; clear n0_ n1_; (try clear hb); (try clear hb2); (try clear hk); (try clear hi)) | ((with_reducible refine gate_callee (f := 7) rfl ?_); refine goesL_ (some 29) rfl rfl Try.func7 (by kernel_rfl) rfl #[] rfl (by (try simp only [List.map_toArray, List.map_cons, List.map_nil]); first | done | rfl | (simp only [List.length_drop, List.length_take]; rfl)) ?_; (with_reducible refine (glossatorlaw3_graphExample.calls k  false _ A29.out).mono ?_); rintro e w52 ⟨rfl, hb⟩; refine ⟨_, rfl, ?_⟩; have n0_ := Aside0.mk (Kd.R_below (by (with_reducible repeat (first | apply Kd.R_alloc | apply Kd.R_drewN | apply Kd.R_drew)); exact HO218.out) hb); have n1_ := Aside0.mk (below_step (by repeat (first | (with_reducible first | exact HB.out | apply below_alloc | apply pw_below_drewN | apply below_drew1) | exact HB.out)) hb); clear HO218; clear HB; have HO218 := n0_; have HB := n1_; clear n0_ n1_; (try clear hb); (try clear hb2); (try clear hk); (try clear hi)))
            go_ret
            exact ⟨by first | rfl | (simp [errW_none, errW_some] <;> rfl) | (simp only [← hji4]; first | rfl | (simp [errW_none, errW_some] <;> rfl)) | (simp [*, errW_none, errW_some] <;> rfl), by repeat (first | (with_reducible first | exact HB.out | apply below_alloc | apply pw_below_drewN | apply below_drew1) | exact HB.out)⟩
      · rw [if_neg c6] at H
        exact absurd H (by simp)
    · rw [if_neg c5] at H
      exact absurd H (by simp)
  · replace c3 := Bool.eq_false_iff.mpr c3
    subst c3
    have H1 : (some false) = some r := by rw [if_neg (show ¬ (false = true) by decide)] at H; exact H
    clear H
    have H := H1
    clear H1
    obtain rfl := Option.some.inj H
    go_enter Try.func4, Try.ntmps4
    go_wp2_with (first | ((with_reducible refine gate_callee (f := 7) rfl ?_); refine goesL_ (some 5) rfl rfl Try.func7 (by kernel_rfl) rfl #[] rfl (by (try simp only [List.map_toArray, List.map_cons, List.map_nil]); first | done | rfl | (simp only [List.length_drop, List.length_take]; rfl)) ?_; (with_reducible refine (glossatorlaw3_graphExample.calls k  false _ A2.out).mono ?_); rintro e w53 ⟨rfl, hb⟩; refine ⟨_, rfl, ?_⟩; have n0_ := Aside0.mk (below_step (by repeat (first | (with_reducible first | exact HB.out | apply below_alloc | apply pw_below_drewN | apply below_drew1) | exact HB.out)) hb); clear HB; have HB := n0_; clear n0_; (try clear hb); (try clear hb2); (try clear hk); (try clear hi)))
    go_ret
    exact ⟨by first | rfl | (simp [errW_none, errW_some] <;> rfl) | (simp [*, errW_none, errW_some] <;> rfl), by repeat (first | (with_reducible first | exact HB.out | apply below_alloc | apply pw_below_drewN | apply below_drew1) | exact HB.out)⟩

end Go.Proofs.Ytofonbfpjfabbaa.QDepgraphOrder
