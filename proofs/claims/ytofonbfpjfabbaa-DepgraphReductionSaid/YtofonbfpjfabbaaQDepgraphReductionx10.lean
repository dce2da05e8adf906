-- Written by gen.py (this repo's wip/), which runs the kit's print.py with more arms. Lean checks it.
import Derived.Test.YtofonbfpjfabbaaQDepgraphReductionx0
import Derived.Test.YtofonbfpjfabbaaQDepgraphReductionx1
import Derived.Test.YtofonbfpjfabbaaQDepgraphReductionx8
import Derived.Test.YtofonbfpjfabbaaQDepgraphReductionx9
namespace Go.Proofs.Ytofonbfpjfabbaa.QDepgraphReduction
open Go.RowKit Go.Proofs.YtofonbfpjfabbaaW.PrintWords Go.Proofs.YtofonbfpjfabbaaW.PrintLast Go.Proofs.YtofonbfpjfabbaaW.PrintMore
attribute [local go_sem] max2_int min2_int max_two min_two max_three min_three max_four min_four   -- for this text's walks alone
set_option linter.unusedVariables false
set_option linter.unusedSimpArgs false

private theorem isEmpty_bne {α : Type} [BEq α] (l : List α) : (l != []) = !l.isEmpty := by cases l <;> rfl

attribute [local go_sem high] eqA24
/-! ### glossatorref3_Reachable: function 10 -/
mutual
def glossatorref3_Reachable.l0 : Nat → List (S44) → List (S24) → Bool → Int → Int → Int → Option ((List (S24)))
  | 0, _, _, _, _, _, _ => none
  | k + 1, x0, x5, x6, x166000, x166001, x166002 => if x6 = true then (glossatorref3_Reachable.l1 k x0 x5 false x0 (x0.length : Int) 0 x166000 x166001 x166002) else ((glossatorref3_SortKeys.f x5).bind fun t166 => (some t166))
def glossatorref3_Reachable.l1 : Nat → List (S44) → List (S24) → Bool → List (S44) → Int → Int → Int → Int → Int → Option ((List (S24)))
  | 0, _, _, _, _, _, _, _, _, _ => none
  | k + 1, x0, x5, x6, x10, x11, x12, x166000, x166001, x166002 => if x12 < x11 then (if 0 ≤ x12 then (if x12 < (x10.length : Int) then (if (((rd_T44 x10 x12).f0.f0) == x166000 && (((rd_T44 x10 x12).f0.f1) == x166001 && (((rd_T44 x10 x12).f0.f2) == x166002))) = true then ((api_QKey_23.f k x5 ((rd_T44 x10 x12).f1.f0) ((rd_T44 x10 x12).f1.f1) ((rd_T44 x10 x12).f1.f2)).bind fun t171 => (if t171 = true then (glossatorref3_Reachable.l1 k x0 x5 x6 x10 x11 (wrap64 (x12 + 1)) x166000 x166001 x166002) else (if x5.length < 5864062014805 then (glossatorref3_Reachable.l1 k x0 (x5 ++ [(⟨(rd_T44 x10 x12).f1.f0, (rd_T44 x10 x12).f1.f1, (rd_T44 x10 x12).f1.f2⟩ : S24)]) true x10 x11 (wrap64 (x12 + 1)) x166000 x166001 x166002) else (none)))) else ((api_QKey_23.f k x5 ((rd_T44 x10 x12).f0.f0) ((rd_T44 x10 x12).f0.f1) ((rd_T44 x10 x12).f0.f2)).bind fun t175 => (if t175 = true then ((api_QKey_23.f k x5 ((rd_T44 x10 x12).f1.f0) ((rd_T44 x10 x12).f1.f1) ((rd_T44 x10 x12).f1.f2)).bind fun t176 => (if t176 = true then (glossatorref3_Reachable.l1 k x0 x5 x6 x10 x11 (wrap64 (x12 + 1)) x166000 x166001 x166002) else (if x5.length < 5864062014805 then (glossatorref3_Reachable.l1 k x0 (x5 ++ [(⟨(rd_T44 x10 x12).f1.f0, (rd_T44 x10 x12).f1.f1, (rd_T44 x10 x12).f1.f2⟩ : S24)]) true x10 x11 (wrap64 (x12 + 1)) x166000 x166001 x166002) else (none)))) else (glossatorref3_Reachable.l1 k x0 x5 x6 x10 x11 (wrap64 (x12 + 1)) x166000 x166001 x166002)))) else (none)) else (none)) else (glossatorref3_Reachable.l0 k x0 x5 x6 x166000 x166001 x166002)
end
def glossatorref3_Reachable.f (k : Nat) (l0 : List (S44)) (a1_0 : Int) (a1_1 : Int) (a1_2 : Int) : Option ((List (S24))) := glossatorref3_Reachable.l0 k l0 ([] : List (S24)) true a1_0 a1_1 a1_2
theorem glossatorref3_Reachable.mono_l : ∀ k, (∀ y0 y1 y2 y3 y4 y5, LeO (glossatorref3_Reachable.l0 k y0 y1 y2 y3 y4 y5) (glossatorref3_Reachable.l0 (k + 1) y0 y1 y2 y3 y4 y5)) ∧ (∀ y0 y1 y2 y3 y4 y5 y6 y7 y8, LeO (glossatorref3_Reachable.l1 k y0 y1 y2 y3 y4 y5 y6 y7 y8) (glossatorref3_Reachable.l1 (k + 1) y0 y1 y2 y3 y4 y5 y6 y7 y8))
  | 0 => ⟨fun _ _ _ _ _ _ r h => by simp [glossatorref3_Reachable.l0] at h, fun _ _ _ _ _ _ _ _ _ r h => by simp [glossatorref3_Reachable.l1] at h⟩
  | k + 1 => by
    obtain ⟨ih0, ih1⟩ := glossatorref3_Reachable.mono_l k
    refine ⟨?_, ?_⟩
    · intro y0 y1 y2 y3 y4 y5
      unfold glossatorref3_Reachable.l0
      repeat' first
      | (with_reducible exact ih0 _ _ _ _ _ _)
      | (with_reducible exact ih1 _ _ _ _ _ _ _ _ _)
      | (with_reducible exact api_QKey_23.mono _ _ _ _ _)
      | (with_reducible exact LeO.refl _)
      | (with_reducible exact LeO.none _)
      | (with_reducible refine LeO.ite ?_ ?_)
      | (with_reducible refine LeO.bind ?_ (fun _ => ?_))
      | exact ih0 _ _ _ _ _ _
      | exact ih1 _ _ _ _ _ _ _ _ _
      | exact api_QKey_23.mono _ _ _ _ _
      | exact LeO.none _
      | refine LeO.ite ?_ ?_
      | refine LeO.bind ?_ (fun _ => ?_)
    · intro y0 y1 y2 y3 y4 y5 y6 y7 y8
      unfold glossatorref3_Reachable.l1
      repeat' first
      | (with_reducible exact ih0 _ _ _ _ _ _)
      | (with_reducible exact ih1 _ _ _ _ _ _ _ _ _)
      | (with_reducible exact api_QKey_23.mono _ _ _ _ _)
      | (with_reducible exact LeO.refl _)
      | (with_reducible exact LeO.none _)
      | (with_reducible refine LeO.ite ?_ ?_)
      | (with_reducible refine LeO.bind ?_ (fun _ => ?_))
      | exact ih0 _ _ _ _ _ _
      | exact ih1 _ _ _ _ _ _ _ _ _
      | exact api_QKey_23.mono _ _ _ _ _
      | exact LeO.none _
      | refine LeO.ite ?_ ?_
      | refine LeO.bind ?_ (fun _ => ?_)
theorem glossatorref3_Reachable.mono : ∀ a0 a1 a2 a3 k, LeO (glossatorref3_Reachable.f k a0 a1 a2 a3) (glossatorref3_Reachable.f (k + 1) a0 a1 a2 a3) := by
  intro a0 a1 a2 a3 k
  obtain ⟨ih0, ih1⟩ := glossatorref3_Reachable.mono_l k
  unfold glossatorref3_Reachable.f
  repeat' first
      | (with_reducible exact ih0 _ _ _ _ _ _)
      | (with_reducible exact ih1 _ _ _ _ _ _ _ _ _)
      | (with_reducible exact api_QKey_23.mono _ _ _ _ _)
      | (with_reducible exact LeO.refl _)
      | (with_reducible exact LeO.none _)
      | (with_reducible refine LeO.ite ?_ ?_)
      | (with_reducible refine LeO.bind ?_ (fun _ => ?_))
      | exact ih0 _ _ _ _ _ _
      | exact ih1 _ _ _ _ _ _ _ _ _
      | exact api_QKey_23.mono _ _ _ _ _
      | exact LeO.none _
      | refine LeO.ite ?_ ?_
      | refine LeO.bind ?_ (fun _ => ?_)
set_option maxHeartbeats 8000000 in
set_option maxRecDepth 100000 in
theorem glossatorref3_Reachable.calls (k : Nat) (A0 : Option Addr) (c0 : Nat) (l0 : List (S44)) (a1_0 : Int) (a1_1 : Int) (a1_2 : Int) (r : List (S24)) (w : World) (hr0 : Kd.C k44 w A0 l0.length l0) (hc0 : l0.length ≤ c0) (h : glossatorref3_Reachable.f k l0 a1_0 a1_1 a1_2 = some r) :
    Calls Try.prog 10 #[.slice A0 l0.length c0, .agg #[.int .i64 a1_0, .int .i64 a1_1, .int .i64 a1_2]] w fun e w' => ∃ v0_ : Value, e = .returned (v0_) ∧ Kd.R k24 24 w' w.heap.size (fun _ => True) v0_ r ∧ Below w.heap.size w w' := by
  have hu24 := Try.underlying24
  have hu44 := Try.underlying44
  have HR0 := Aside0.mk hr0
  have HC0 := Aside0.mk hc0
  clear hr0 hc0
  have HB := Aside0.mk (Below.refl w.heap.size w)
  have H : (glossatorref3_Reachable.l0 k l0 ([] : List (S24)) true a1_0 a1_1 a1_2) = some r := h
  clear h
  have H' := Aside0.mk H
  clear H
  go_enter Try.func10, Try.ntmps10
  go_wp2_with (first | ((with_reducible refine gate_dst (N := 3) rfl ?_); refine box_event ?hg (N := 3) ?hd (cs := #[.int .i64 a1_0, .int .i64 a1_1, .int .i64 a1_2]) (t := 24) ?hr ?_; (case hd => rfl); (case hg => rfl); (case hr => first | (go_simp; done) | (go_simp; rfl)); intro gb165 hg w3 hbox hb; have n0_ := Aside0.mk (below_step (by repeat (first | (with_reducible first | exact HB.out | apply below_alloc | apply pw_below_drewN | apply below_drew1) | exact HB.out)) hb); have n1_ := Aside0.mk (hbox); have n2_ := Aside0.mk ((by rw [hg]; exact (below_size (by repeat (first | (with_reducible first | exact HB.out | apply below_alloc | apply pw_below_drewN | apply below_drew1) | exact HB.out))) : w.heap.size ≤ gb165)); have n3_ := Aside0.mk ((by rw [hg]; exact (below_size (by repeat (first | (with_reducible first | exact HB.out | apply below_alloc | apply pw_below_drewN | apply below_drew1) | exact HB.out))) : w.heap.size ≤ gb165)); clear HB; have HB := n0_; have BK165 := n1_; have GW165 := n2_; have GE165 := n3_; clear n0_ n1_ n2_ n3_; clear hb hbox hg))
  go_loopg [5, 6] k (fun kq v5 v6 w' => ∃ (x5_1 : List (S24)) (x6_1 : Bool), v6 = .bool x6_1 ∧ Aside0 (glossatorref3_Reachable.l0 kq l0 x5_1 x6_1 a1_0 a1_1 a1_2 = some r) ∧ Aside0 (kq ≤ k) ∧ Aside0 (Kd.R k24 24 w' w.heap.size (fun k_ => k_ ≠ gb165) v5 x5_1) ∧ Aside0 (w'.heap[gb165]? = some (.cells #[.int .i64 a1_0, .int .i64 a1_1, .int .i64 a1_2] 24 (0, 0))) ∧ Aside0 (Below w.heap.size w w'))
  case atStart => exact ⟨(([] : List (S24))), (true), (by first | rfl | (simp; done) | (simp [*]; done) | (simp [isEmpty_bne]; done)), H', ⟨Nat.le_refl _⟩, ⟨by first | exact Kd.R_nil _ _ _ _ _ | exact Kd.N_nil _ _ _ _ _ | exact Kd.V_nil _ _ _ _ _ | exact Kd.Q_nil _ _ _ _ _ | exact Kd.S_nil _ _ _ _ _⟩, ⟨by (with_reducible repeat (first | refine blk_drewN ?_ _ | refine blk_drew ?_ | refine blk_alloc ?_ _)); exact BK165.out⟩, ⟨by repeat (first | (with_reducible first | exact HB.out | apply below_alloc | apply pw_below_drewN | apply below_drew1 | refine below_set ?_ GE165.out) | exact HB.out)⟩⟩
  case round =>
    clear H'
    try clear c1
    try clear p2
    obtain ⟨x5_1, x6_1, rfl, HA, HK1, HO_5, BK165, HB⟩ := hrel
    cases gk with
    | zero => exact absurd HA.out (by simp [glossatorref3_Reachable.l0])
    | succ k1 =>
      have H := HA.out
      clear HA
      simp only [glossatorref3_Reachable.l0] at H
      by_cases c4 : x6_1 = true
      · subst c4
        have H1 : (glossatorref3_Reachable.l1 k1 l0 x5_1 false l0 (l0.length : Int) 0 a1_0 a1_1 a1_2) = some r := by rw [if_pos rfl] at H; exact H
        clear H
        have H := H1
        clear H1
        have H' := Aside0.mk H
        clear H
        go_wp2
        go_loopg [5, 6, 12] k1 (fun kq v5 v6 v12 w' => ∃ (x5_2 : List (S24)) (x6_2 : Bool) (x12_2 : Int), v6 = .bool x6_2 ∧ v12 = .int .i64 x12_2 ∧ Aside0 (glossatorref3_Reachable.l1 kq l0 x5_2 x6_2 l0 (l0.length : Int) x12_2 a1_0 a1_1 a1_2 = some r) ∧ Aside0 (kq ≤ k1) ∧ Aside0 (Kd.R k24 24 w' w.heap.size (fun k_ => k_ ≠ gb165) v5 x5_2) ∧ Aside0 (w'.heap[gb165]? = some (.cells #[.int .i64 a1_0, .int .i64 a1_1, .int .i64 a1_2] 24 (0, 0))) ∧ Aside0 (Below w.heap.size w w'))
        case atStart => exact ⟨(x5_1), (false), (0), (by first | rfl | (simp; done) | (simp [*]; done) | (simp [isEmpty_bne]; done)), (by first | rfl | (simp; done) | (simp [*]; done) | (simp [isEmpty_bne]; done)), H', ⟨Nat.le_refl _⟩, ⟨by (with_reducible repeat (first | apply Kd.R_alloc | apply Kd.R_drewN | apply Kd.R_drew)); exact HO_5.out⟩, ⟨by (with_reducible repeat (first | refine blk_drewN ?_ _ | refine blk_drew ?_ | refine blk_alloc ?_ _)); exact BK165.out⟩, ⟨by repeat (first | (with_reducible first | exact HB.out | apply below_alloc | apply pw_below_drewN | apply below_drew1 | refine below_set ?_ GE165.out) | exact HB.out)⟩⟩
        case round =>
          clear H'
          try clear c1
          try clear p2
          try clear c4
          try clear p2
          obtain ⟨x5_2, x6_2, x12_2, rfl, rfl, HA, HK2, HO_5, BK165, HB⟩ := hrel
          cases gk with
          | zero => exact absurd HA.out (by simp [glossatorref3_Reachable.l1])
          | succ k2 =>
            have H := HA.out
            clear HA
            simp only [glossatorref3_Reachable.l1] at H
            by_cases c5 : x12_2 < (l0.length : Int)
            · rw [if_pos c5] at H
              have c5b0 : decide (x12_2 < (l0.length : Int)) = true := decide_eq_true c5
              clear c5
              by_cases c6 : 0 ≤ x12_2
              · rw [if_pos c6] at H
                have c6b0 : decide (0 ≤ x12_2) = true := decide_eq_true c6
                clear c6
                by_cases c7 : x12_2 < (l0.length : Int)
                · rw [if_pos c7] at H
                  have c7b0 : decide (x12_2 < (l0.length : Int)) = true := decide_eq_true c7
                  clear c7
                  by_cases c8 : (((rd_T44 l0 x12_2).f0.f0) == a1_0 && (((rd_T44 l0 x12_2).f0.f1) == a1_1 && (((rd_T44 l0 x12_2).f0.f2) == a1_2))) = true
                  · rw [if_pos c8] at H
                    have c8b0 : (((rd_T44 l0 x12_2).f0.f0) == a1_0 && (((rd_T44 l0 x12_2).f0.f1) == a1_1 && (((rd_T44 l0 x12_2).f0.f2) == a1_2))) = true := c8
                    (try (have c8b1 : decide (((rd_T44 l0 x12_2).f0.f0) = a1_0 && (((rd_T44 l0 x12_2).f0.f1) == a1_1 && (((rd_T44 l0 x12_2).f0.f2) == a1_2))) = true := by simpa using c8))
                    (try (have c8b2 : (((rd_T44 l0 x12_2).f0.f0) == a1_0 && (((rd_T44 l0 x12_2).f0.f1) == a1_1 && (((rd_T44 l0 x12_2).f0.f2) == a1_2))) = true := by simpa using c8))
                    clear c8
                    replace H := Option.bind_eq_some_iff.mp H
                    obtain ⟨t171, A90, H⟩ := H
                    replace H : (if t171 = true then (glossatorref3_Reachable.l1 k2 l0 x5_2 x6_2 l0 (l0.length : Int) (wrap64 (x12_2 + 1)) a1_0 a1_1 a1_2) else (if x5_2.length < 5864062014805 then (glossatorref3_Reachable.l1 k2 l0 (x5_2 ++ [(⟨(rd_T44 l0 x12_2).f1.f0, (rd_T44 l0 x12_2).f1.f1, (rd_T44 l0 x12_2).f1.f2⟩ : S24)]) true l0 (l0.length : Int) (wrap64 (x12_2 + 1)) a1_0 a1_1 a1_2) else (none))) = some r := H
                    have A9 := Aside0.mk A90
                    clear A90
                    by_cases c10 : t171 = true
                    · subst c10
                      have H1 : (glossatorref3_Reachable.l1 k2 l0 x5_2 x6_2 l0 (l0.length : Int) (wrap64 (x12_2 + 1)) a1_0 a1_1 a1_2) = some r := by rw [if_pos rfl] at H; exact H
                      clear H
                      have H := H1
                      clear H1
                      have H' := Aside0.mk H
                      clear H
                      have p169 : 0 ≤ (x12_2 : Int) := of_decide_eq_true (by first | (with_reducible assumption) | assumption)
                      have q169 : x12_2 < (l0.length : Int) := of_decide_eq_true (by first | (with_reducible assumption) | assumption)
                      obtain ⟨ad169, e169, hx169_0, hx169_1, hx169_2, hx169_3, hx169_4, hx169_5⟩ := at_T44 HR0.out x12_2 p169 q169
                      cases e169
                      replace hx169_0 := (HB.out.cell (World.block_lt_of_cell? w _ hx169_0)).trans hx169_0
                      replace hx169_1 := (HB.out.cell (World.block_lt_of_cell? w _ hx169_1)).trans hx169_1
                      replace hx169_2 := (HB.out.cell (World.block_lt_of_cell? w _ hx169_2)).trans hx169_2
                      replace hx169_3 := (HB.out.cell (World.block_lt_of_cell? w _ hx169_3)).trans hx169_3
                      replace hx169_4 := (HB.out.cell (World.block_lt_of_cell? w _ hx169_4)).trans hx169_4
                      replace hx169_5 := (HB.out.cell (World.block_lt_of_cell? w _ hx169_5)).trans hx169_5
                      replace p169 := eq_true p169
                      replace q169 := eq_true q169
                      go_wp2_with (first | ((with_reducible refine gate_dst (N := 8) rfl ?_); refine box_event ?hg (N := 8) ?hd (cs := #[.int .i64 0, .int .i64 0, .int .i64 0, .int .i64 0, .int .i64 0, .int .i64 0]) (t := 44) ?hr ?_; (case hd => rfl); (case hg => rfl); (case hr => first | (go_simp; done) | (go_simp; rfl)); intro gb170 hg w11 hbox hb; have n0_ := Aside0.mk (Kd.R_below (by (with_reducible repeat (first | apply Kd.R_alloc | apply Kd.R_drewN | apply Kd.R_drew)); exact HO_5.out) hb); have n1_ := Aside0.mk (blk_below (g := gb165) (o := .cells #[.int .i64 a1_0, .int .i64 a1_1, .int .i64 a1_2] 24 (0, 0)) (by (with_reducible repeat (first | refine blk_drewN ?_ _ | refine blk_drew ?_ | refine blk_alloc ?_ _)); exact BK165.out) hb); have n2_ := Aside0.mk (below_step (by repeat (first | (with_reducible first | exact HB.out | apply below_alloc | apply pw_below_drewN | apply below_drew1 | refine below_set ?_ GE165.out) | exact HB.out)) hb); have n3_ := Aside0.mk (hbox); have n4_ := Aside0.mk ((by rw [hg]; exact (below_size (by repeat (first | (with_reducible first | exact HB.out | apply below_alloc | apply pw_below_drewN | apply below_drew1 | refine below_set ?_ GE165.out) | exact HB.out))) : w.heap.size ≤ gb170)); have n5_ := Aside0.mk ((by rw [hg]; exact (below_size (by repeat (first | (with_reducible first | exact HB.out | apply below_alloc | apply pw_below_drewN | apply below_drew1 | refine below_set ?_ GE165.out) | exact HB.out))) : w.heap.size ≤ gb170)); have n6_ := Aside0.mk ((by rw [hg]; exact Nat.ne_of_lt (blk_lt (g := gb165) (o := .cells #[.int .i64 a1_0, .int .i64 a1_1, .int .i64 a1_2] 24 (0, 0)) (by (with_reducible repeat (first | refine blk_drewN ?_ _ | refine blk_drew ?_ | refine blk_alloc ?_ _)); exact BK165.out)) : gb165 ≠ gb170)); have n7_ := Aside0.mk ((by rw [hg]; exact Nat.ne_of_gt (blk_lt (g := gb165) (o := .cells #[.int .i64 a1_0, .int .i64 a1_1, .int .i64 a1_2] 24 (0, 0)) (by (with_reducible repeat (first | refine blk_drewN ?_ _ | refine blk_drew ?_ | refine blk_alloc ?_ _)); exact BK165.out)) : gb170 ≠ gb165)); clear HO_5; clear BK165; clear HB; have HO_5 := n0_; have BK165 := n1_; have HB := n2_; have BK170 := n3_; have GW170 := n4_; have GE170 := n5_; have NB165_170 := n6_; have NB170_165 := n7_; clear n0_ n1_ n2_ n3_ n4_ n5_ n6_ n7_; clear hb hbox hg; have hnb12 := NB170_165.out; have hnc12 := NB165_170.out; have hcz13_0 : w11.cell? ⟨gb170, 0, none⟩ = some (.int .i64 0) := (blk_cell BK170.out 0).trans rfl; have hcz13_1 : w11.cell? ⟨gb170, 1, none⟩ = some (.int .i64 0) := (blk_cell BK170.out 1).trans rfl; have hcz13_2 : w11.cell? ⟨gb170, 2, none⟩ = some (.int .i64 0) := (blk_cell BK170.out 2).trans rfl; have hcz13_3 : w11.cell? ⟨gb170, 3, none⟩ = some (.int .i64 0) := (blk_cell BK170.out 3).trans rfl; have hcz13_4 : w11.cell? ⟨gb170, 4, none⟩ = some (.int .i64 0) := (blk_cell BK170.out 4).trans rfl; have hcz13_5 : w11.cell? ⟨gb170, 5, none⟩ = some (.int .i64 0) := (blk_cell BK170.out 5).trans rfl; have hfz13_0 := blk_frozen BK170.out 0; have hfz13_1 := blk_frozen BK170.out 1; have hfz13_2 := blk_frozen BK170.out 2; have hfz13_3 := blk_frozen BK170.out 3; have hfz13_4 := blk_frozen BK170.out 4; have hfz13_5 := blk_frozen BK170.out 5; have hcz14_0 : w11.cell? ⟨gb165, 0, none⟩ = some (.int .i64 a1_0) := (blk_cell BK165.out 0).trans rfl; have hcz14_1 : w11.cell? ⟨gb165, 1, none⟩ = some (.int .i64 a1_1) := (blk_cell BK165.out 1).trans rfl; have hcz14_2 : w11.cell? ⟨gb165, 2, none⟩ = some (.int .i64 a1_2) := (blk_cell BK165.out 2).trans rfl; have hfz14_0 := blk_frozen BK165.out 0; have hfz14_1 := blk_frozen BK165.out 1; have hfz14_2 := blk_frozen BK165.out 2; obtain ⟨Ao15, co15, eo15⟩ := Kd.R_slice HO_5.out; subst eo15) | (go_at_call 23; (with_reducible refine (api_QKey_23.calls k2 _ _ x5_2 ((rd_T44 l0 x12_2).f1.f0) ((rd_T44 l0 x12_2).f1.f1) ((rd_T44 l0 x12_2).f1.f2) true _ ?side1 ?side2 A9.out).mono ?_); (case side1 => refine (Kd.R_reads' (e := 24) (base := w.heap.size) (ok := fun k_ => k_ ≠ gb165) (n := x5_2.length) (c := co15) ?_).2.2; exact (by (with_reducible repeat (first | apply Kd.R_alloc | apply Kd.R_drewN | apply Kd.R_drew)); exact (Kd.R_mono (Kd.R_far (p := ⟨gb170, 5, none⟩) (Kd.R_far (p := ⟨gb170, 4, none⟩) (Kd.R_far (p := ⟨gb170, 3, none⟩) (Kd.R_far (p := ⟨gb170, 2, none⟩) (Kd.R_far (p := ⟨gb170, 1, none⟩) (Kd.R_far (p := ⟨gb170, 0, none⟩) (Kd.R_types HO_5.out BK170.out (by decide)) (fun _ hk => hk.2) (.int .i64 ((rd_T44 l0 x12_2).f0.f0))) (fun _ hk => hk.2) (.int .i64 ((rd_T44 l0 x12_2).f0.f1))) (fun _ hk => hk.2) (.int .i64 ((rd_T44 l0 x12_2).f0.f2))) (fun _ hk => hk.2) (.int .i64 ((rd_T44 l0 x12_2).f1.f0))) (fun _ hk => hk.2) (.int .i64 ((rd_T44 l0 x12_2).f1.f1))) (fun _ hk => hk.2) (.int .i64 ((rd_T44 l0 x12_2).f1.f2))) (fun _ h_ => h_.1)))); (case side2 => exact (Kd.R_reads' HO_5.out).2.1); rintro e w16 ⟨rfl, hb⟩; have n0_ := Aside0.mk (Kd.R_below (by (with_reducible repeat (first | apply Kd.R_alloc | apply Kd.R_drewN | apply Kd.R_drew)); exact (Kd.R_mono (Kd.R_far (p := ⟨gb170, 5, none⟩) (Kd.R_far (p := ⟨gb170, 4, none⟩) (Kd.R_far (p := ⟨gb170, 3, none⟩) (Kd.R_far (p := ⟨gb170, 2, none⟩) (Kd.R_far (p := ⟨gb170, 1, none⟩) (Kd.R_far (p := ⟨gb170, 0, none⟩) (Kd.R_types HO_5.out BK170.out (by decide)) (fun _ hk => hk.2) (.int .i64 ((rd_T44 l0 x12_2).f0.f0))) (fun _ hk => hk.2) (.int .i64 ((rd_T44 l0 x12_2).f0.f1))) (fun _ hk => hk.2) (.int .i64 ((rd_T44 l0 x12_2).f0.f2))) (fun _ hk => hk.2) (.int .i64 ((rd_T44 l0 x12_2).f1.f0))) (fun _ hk => hk.2) (.int .i64 ((rd_T44 l0 x12_2).f1.f1))) (fun _ hk => hk.2) (.int .i64 ((rd_T44 l0 x12_2).f1.f2))) (fun _ h_ => h_.1))) hb); have n1_ := Aside0.mk (blk_below (g := gb165) (o := .cells #[.int .i64 a1_0, .int .i64 a1_1, .int .i64 a1_2] 24 (0, 0)) (by (with_reducible repeat (first | refine blk_drewN ?_ _ | refine blk_drew ?_ | refine blk_alloc ?_ _)); refine blk_far ?_ NB165_170.out _; (with_reducible repeat (first | refine blk_drewN ?_ _ | refine blk_drew ?_ | refine blk_alloc ?_ _)); refine blk_far ?_ NB165_170.out _; (with_reducible repeat (first | refine blk_drewN ?_ _ | refine blk_drew ?_ | refine blk_alloc ?_ _)); refine blk_far ?_ NB165_170.out _; (with_reducible repeat (first | refine blk_drewN ?_ _ | refine blk_drew ?_ | refine blk_alloc ?_ _)); refine blk_far ?_ NB165_170.out _; (with_reducible repeat (first | refine blk_drewN ?_ _ | refine blk_drew ?_ | refine blk_alloc ?_ _)); refine blk_far ?_ NB165_170.out _; (with_reducible repeat (first | refine blk_drewN ?_ _ | refine blk_drew ?_ | refine blk_alloc ?_ _)); refine blk_far ?_ NB165_170.out _; (with_reducible repeat (first | refine blk_drewN ?_ _ | refine blk_drew ?_ | refine blk_alloc ?_ _)); exact BK165.out) hb); have n2_ := Aside0.mk (blk_below (g := gb170) (o := .cells #[.int .i64 ((rd_T44 l0 x12_2).f0.f0), .int .i64 ((rd_T44 l0 x12_2).f0.f1), .int .i64 ((rd_T44 l0 x12_2).f0.f2), .int .i64 ((rd_T44 l0 x12_2).f1.f0), .int .i64 ((rd_T44 l0 x12_2).f1.f1), .int .i64 ((rd_T44 l0 x12_2).f1.f2)] 44 (0, 0)) (by (with_reducible repeat (first | refine blk_drewN ?_ _ | refine blk_drew ?_ | refine blk_alloc ?_ _)); refine blk_put (cs := #[.int .i64 ((rd_T44 l0 x12_2).f0.f0), .int .i64 ((rd_T44 l0 x12_2).f0.f1), .int .i64 ((rd_T44 l0 x12_2).f0.f2), .int .i64 ((rd_T44 l0 x12_2).f1.f0), .int .i64 ((rd_T44 l0 x12_2).f1.f1), .int .i64 0]) ?_ 5 _ rfl; (with_reducible repeat (first | refine blk_drewN ?_ _ | refine blk_drew ?_ | refine blk_alloc ?_ _)); refine blk_put (cs := #[.int .i64 ((rd_T44 l0 x12_2).f0.f0), .int .i64 ((rd_T44 l0 x12_2).f0.f1), .int .i64 ((rd_T44 l0 x12_2).f0.f2), .int .i64 ((rd_T44 l0 x12_2).f1.f0), .int .i64 0, .int .i64 0]) ?_ 4 _ rfl; (with_reducible repeat (first | refine blk_drewN ?_ _ | refine blk_drew ?_ | refine blk_alloc ?_ _)); refine blk_put (cs := #[.int .i64 ((rd_T44 l0 x12_2).f0.f0), .int .i64 ((rd_T44 l0 x12_2).f0.f1), .int .i64 ((rd_T44 l0 x12_2).f0.f2), .int .i64 0, .int .i64 0, .int .i64 0]) ?_ 3 _ rfl; (with_reducible repeat (first | refine blk_drewN ?_ _ | refine blk_drew ?_ | refine blk_alloc ?_ _)); refine blk_put (cs := #[.int .i64 ((rd_T44 l0 x12_2).f0.f0), .int .i64 ((rd_T44 l0 x12_2).f0.f1), .int .i64 0, .int .i64 0, .int .i64 0, .int .i64 0]) ?_ 2 _ rfl; (with_reducible repeat (first | refine blk_drewN ?_ _ | refine blk_drew ?_ | refine blk_alloc ?_ _)); refine blk_put (cs := #[.int .i64 ((rd_T44 l0 x12_2).f0.f0), .int .i64 0, .int .i64 0, .int .i64 0, .int .i64 0, .int .i64 0]) ?_ 1 _ rfl; (with_reducible repeat (first | refine blk_drewN ?_ _ | refine blk_drew ?_ | refine blk_alloc ?_ _)); refine blk_put (cs := #[.int .i64 0, .int .i64 0, .int .i64 0, .int .i64 0, .int .i64 0, .int .i64 0]) ?_ 0 _ rfl; (with_reducible repeat (first | refine blk_drewN ?_ _ | refine blk_drew ?_ | refine blk_alloc ?_ _)); exact BK170.out) hb); have n3_ := Aside0.mk (below_step (by repeat (first | (with_reducible first | exact HB.out | apply below_alloc | apply pw_below_drewN | apply below_drew1 | refine below_set ?_ GE165.out | refine below_set ?_ GE170.out) | exact HB.out)) hb); clear HO_5; clear BK165; clear BK170; clear HB; have HO_5 := n0_; have BK165 := n1_; have BK170 := n2_; have HB := n3_; clear n0_ n1_ n2_ n3_; (try clear hb); (try clear hb2); (try clear hk); (try clear hi)))
                      go_roundg k2
                      case measure => have := HK1.out; have := HK2.out; omega
                      case rel => exact ⟨(x5_2), (x6_2), (wrap64 (x12_2 + 1)), (by first | rfl | (simp; done) | (simp [*]; done) | (simp [isEmpty_bne]; done)), (by first | rfl | (simp; done) | (simp [*]; done) | (simp [isEmpty_bne]; done)), H', ⟨by have := HK1.out; have := HK2.out; omega⟩, ⟨by (with_reducible repeat (first | apply Kd.R_alloc | apply Kd.R_drewN | apply Kd.R_drew)); exact HO_5.out⟩, ⟨by (with_reducible repeat (first | refine blk_drewN ?_ _ | refine blk_drew ?_ | refine blk_alloc ?_ _)); exact BK165.out⟩, ⟨by repeat (first | (with_reducible first | exact HB.out | apply below_alloc | apply pw_below_drewN | apply below_drew1 | refine below_set ?_ GE165.out | refine below_set ?_ GE170.out) | exact HB.out)⟩⟩
                    · replace c10 := Bool.eq_false_iff.mpr c10
                      subst c10
                      have H1 : (if x5_2.length < 5864062014805 then (glossatorref3_Reachable.l1 k2 l0 (x5_2 ++ [(⟨(rd_T44 l0 x12_2).f1.f0, (rd_T44 l0 x12_2).f1.f1, (rd_T44 l0 x12_2).f1.f2⟩ : S24)]) true l0 (l0.length : Int) (wrap64 (x12_2 + 1)) a1_0 a1_1 a1_2) else (none)) = some r := by rw [if_neg (show ¬ (false = true) by decide)] at H; exact H
                      clear H
                      have H := H1
                      clear H1
                      by_cases c17 : x5_2.length < 5864062014805
                      · rw [if_pos c17] at H
                        have LMc17 := Aside0.mk c17
                        clear c17
                        obtain ⟨y172, hy172⟩ : ∃ y_ : List (S24), y_ = (x5_2 ++ [(⟨(rd_T44 l0 x12_2).f1.f0, (rd_T44 l0 x12_2).f1.f1, (rd_T44 l0 x12_2).f1.f2⟩ : S24)]) := ⟨_, rfl⟩
                        replace H : (glossatorref3_Reachable.l1 k2 l0 y172 true l0 (l0.length : Int) (wrap64 (x12_2 + 1)) a1_0 a1_1 a1_2) = some r := by first | (rw [hy172]; with_reducible exact H) | (have H2_ := (Option.bind_some _ _).symm.trans H; rw [hy172]; with_reducible exact H2_) | (have H2_ := (Option.bind_some _ _).symm.trans H; with_reducible exact H2_) | with_reducible exact H | (rw [hy172]; exact H) | exact H
                        have Ny172 := Aside0.mk hy172
                        clear hy172
                        have H' := Aside0.mk H
                        clear H
                        have p169 : 0 ≤ (x12_2 : Int) := of_decide_eq_true (by first | (with_reducible assumption) | assumption)
                        have q169 : x12_2 < (l0.length : Int) := of_decide_eq_true (by first | (with_reducible assumption) | assumption)
                        obtain ⟨ad169, e169, hx169_0, hx169_1, hx169_2, hx169_3, hx169_4, hx169_5⟩ := at_T44 HR0.out x12_2 p169 q169
                        cases e169
                        replace hx169_0 := (HB.out.cell (World.block_lt_of_cell? w _ hx169_0)).trans hx169_0
                        replace hx169_1 := (HB.out.cell (World.block_lt_of_cell? w _ hx169_1)).trans hx169_1
                        replace hx169_2 := (HB.out.cell (World.block_lt_of_cell? w _ hx169_2)).trans hx169_2
                        replace hx169_3 := (HB.out.cell (World.block_lt_of_cell? w _ hx169_3)).trans hx169_3
                        replace hx169_4 := (HB.out.cell (World.block_lt_of_cell? w _ hx169_4)).trans hx169_4
                        replace hx169_5 := (HB.out.cell (World.block_lt_of_cell? w _ hx169_5)).trans hx169_5
                        replace p169 := eq_true p169
                        replace q169 := eq_true q169
                        go_wp2_with (first | ((with_reducible refine gate_dst (N := 8) rfl ?_); refine box_event ?hg (N := 8) ?hd (cs := #[.int .i64 0, .int .i64 0, .int .i64 0, .int .i64 0, .int .i64 0, .int .i64 0]) (t := 44) ?hr ?_; (case hd => rfl); (case hg => rfl); (case hr => first | (go_simp; done) | (go_simp; rfl)); intro gb170 hg w18 hbox hb; have n0_ := Aside0.mk (Kd.R_below (by (with_reducible repeat (first | apply Kd.R_alloc | apply Kd.R_drewN | apply Kd.R_drew)); exact HO_5.out) hb); have n1_ := Aside0.mk (blk_below (g := gb165) (o := .cells #[.int .i64 a1_0, .int .i64 a1_1, .int .i64 a1_2] 24 (0, 0)) (by (with_reducible repeat (first | refine blk_drewN ?_ _ | refine blk_drew ?_ | refine blk_alloc ?_ _)); exact BK165.out) hb); have n2_ := Aside0.mk (below_step (by repeat (first | (with_reducible first | exact HB.out | apply below_alloc | apply pw_below_drewN | apply below_drew1 | refine below_set ?_ GE165.out) | exact HB.out)) hb); have n3_ := Aside0.mk (hbox); have n4_ := Aside0.mk ((by rw [hg]; exact (below_size (by repeat (first | (with_reducible first | exact HB.out | apply below_alloc | apply pw_below_drewN | apply below_drew1 | refine below_set ?_ GE165.out) | exact HB.out))) : w.heap.size ≤ gb170)); have n5_ := Aside0.mk ((by rw [hg]; exact (below_size (by repeat (first | (with_reducible first | exact HB.out | apply below_alloc | apply pw_below_drewN | apply below_drew1 | refine below_set ?_ GE165.out) | exact HB.out))) : w.heap.size ≤ gb170)); have n6_ := Aside0.mk ((by rw [hg]; exact Nat.ne_of_lt (blk_lt (g := gb165) (o := .cells #[.int .i64 a1_0, .int .i64 a1_1, .int .i64 a1_2] 24 (0, 0)) (by (with_reducible repeat (first | refine blk_drewN ?_ _ | refine blk_drew ?_ | refine blk_alloc ?_ _)); exact BK165.out)) : gb165 ≠ gb170)); have n7_ := Aside0.mk ((by rw [hg]; exact Nat.ne_of_gt (blk_lt (g := gb165) (o := .cells #[.int .i64 a1_0, .int .i64 a1_1, .int .i64 a1_2] 24 (0, 0)) (by (with_reducible repeat (first | refine blk_drewN ?_ _ | refine blk_drew ?_ | refine blk_alloc ?_ _)); exact BK165.out)) : gb170 ≠ gb165)); clear HO_5; clear BK165; clear HB; have HO_5 := n0_; have BK165 := n1_; have HB := n2_; have BK170 := n3_; have GW170 := n4_; have GE170 := n5_; have NB165_170 := n6_; have NB170_165 := n7_; clear n0_ n1_ n2_ n3_ n4_ n5_ n6_ n7_; clear hb hbox hg; have hnb19 := NB170_165.out; have hnc19 := NB165_170.out; have hcz20_0 : w18.cell? ⟨gb170, 0, none⟩ = some (.int .i64 0) := (blk_cell BK170.out 0).trans rfl; have hcz20_1 : w18.cell? ⟨gb170, 1, none⟩ = some (.int .i64 0) := (blk_cell BK170.out 1).trans rfl; have hcz20_2 : w18.cell? ⟨gb170, 2, none⟩ = some (.int .i64 0) := (blk_cell BK170.out 2).trans rfl; have hcz20_3 : w18.cell? ⟨gb170, 3, none⟩ = some (.int .i64 0) := (blk_cell BK170.out 3).trans rfl; have hcz20_4 : w18.cell? ⟨gb170, 4, none⟩ = some (.int .i64 0) := (blk_cell BK170.out 4).trans rfl; have hcz20_5 : w18.cell? ⟨gb170, 5, none⟩ = some (.int .i64 0) := (blk_cell BK170.out 5).trans rfl; have hfz20_0 := blk_frozen BK170.out 0; have hfz20_1 := blk_frozen BK170.out 1; have hfz20_2 := blk_frozen BK170.out 2; have hfz20_3 := blk_frozen BK170.out 3; have hfz20_4 := blk_frozen BK170.out 4; have hfz20_5 := blk_frozen BK170.out 5; have hcz21_0 : w18.cell? ⟨gb165, 0, none⟩ = some (.int .i64 a1_0) := (blk_cell BK165.out 0).trans rfl; have hcz21_1 : w18.cell? ⟨gb165, 1, none⟩ = some (.int .i64 a1_1) := (blk_cell BK165.out 1).trans rfl; have hcz21_2 : w18.cell? ⟨gb165, 2, none⟩ = some (.int .i64 a1_2) := (blk_cell BK165.out 2).trans rfl; have hfz21_0 := blk_frozen BK165.out 0; have hfz21_1 := blk_frozen BK165.out 1; have hfz21_2 := blk_frozen BK165.out 2; obtain ⟨Ao22, co22, eo22⟩ := Kd.R_slice HO_5.out; subst eo22) | (go_at_call 23; (with_reducible refine (api_QKey_23.calls k2 _ _ x5_2 ((rd_T44 l0 x12_2).f1.f0) ((rd_T44 l0 x12_2).f1.f1) ((rd_T44 l0 x12_2).f1.f2) false _ ?side1 ?side2 A9.out).mono ?_); (case side1 => refine (Kd.R_reads' (e := 24) (base := w.heap.size) (ok := fun k_ => k_ ≠ gb165) (n := x5_2.length) (c := co22) ?_).2.2; exact (by (with_reducible repeat (first | apply Kd.R_alloc | apply Kd.R_drewN | apply Kd.R_drew)); exact (Kd.R_mono (Kd.R_far (p := ⟨gb170, 5, none⟩) (Kd.R_far (p := ⟨gb170, 4, none⟩) (Kd.R_far (p := ⟨gb170, 3, none⟩) (Kd.R_far (p := ⟨gb170, 2, none⟩) (Kd.R_far (p := ⟨gb170, 1, none⟩) (Kd.R_far (p := ⟨gb170, 0, none⟩) (Kd.R_types HO_5.out BK170.out (by decide)) (fun _ hk => hk.2) (.int .i64 ((rd_T44 l0 x12_2).f0.f0))) (fun _ hk => hk.2) (.int .i64 ((rd_T44 l0 x12_2).f0.f1))) (fun _ hk => hk.2) (.int .i64 ((rd_T44 l0 x12_2).f0.f2))) (fun _ hk => hk.2) (.int .i64 ((rd_T44 l0 x12_2).f1.f0))) (fun _ hk => hk.2) (.int .i64 ((rd_T44 l0 x12_2).f1.f1))) (fun _ hk => hk.2) (.int .i64 ((rd_T44 l0 x12_2).f1.f2))) (fun _ h_ => h_.1)))); (case side2 => exact (Kd.R_reads' HO_5.out).2.1); rintro e w23 ⟨rfl, hb⟩; have n0_ := Aside0.mk (Kd.R_below (by (with_reducible repeat (first | apply Kd.R_alloc | apply Kd.R_drewN | apply Kd.R_drew)); exact (Kd.R_mono (Kd.R_far (p := ⟨gb170, 5, none⟩) (Kd.R_far (p := ⟨gb170, 4, none⟩) (Kd.R_far (p := ⟨gb170, 3, none⟩) (Kd.R_far (p := ⟨gb170, 2, none⟩) (Kd.R_far (p := ⟨gb170, 1, none⟩) (Kd.R_far (p := ⟨gb170, 0, none⟩) (Kd.R_types HO_5.out BK170.out (by decide)) (fun _ hk => hk.2) (.int .i64 ((rd_T44 l0 x12_2).f0.f0))) (fun _ hk => hk.2) (.int .i64 ((rd_T44 l0 x12_2).f0.f1))) (fun _ hk => hk.2) (.int .i64 ((rd_T44 l0 x12_2).f0.f2))) (fun _ hk => hk.2) (.int .i64 ((rd_T44 l0 x12_2).f1.f0))) (fun _ hk => hk.2) (.int .i64 ((rd_T44 l0 x12_2).f1.f1))) (fun _ hk => hk.2) (.int .i64 ((rd_T44 l0 x12_2).f1.f2))) (fun _ h_ => h_.1))) hb); have n1_ := Aside0.mk (blk_below (g := gb165) (o := .cells #[.int .i64 a1_0, .int .i64 a1_1, .int .i64 a1_2] 24 (0, 0)) (by (with_reducible repeat (first | refine blk_drewN ?_ _ | refine blk_drew ?_ | refine blk_alloc ?_ _)); refine blk_far ?_ NB165_170.out _; (with_reducible repeat (first | refine blk_drewN ?_ _ | refine blk_drew ?_ | refine blk_alloc ?_ _)); refine blk_far ?_ NB165_170.out _; (with_reducible repeat (first | refine blk_drewN ?_ _ | refine blk_drew ?_ | refine blk_alloc ?_ _)); refine blk_far ?_ NB165_170.out _; (with_reducible repeat (first | refine blk_drewN ?_ _ | refine blk_drew ?_ | refine blk_alloc ?_ _)); refine blk_far ?_ NB165_170.out _; (with_reducible repeat (first | refine blk_drewN ?_ _ | refine blk_drew ?_ | refine blk_alloc ?_ _)); refine blk_far ?_ NB165_170.out _; (with_reducible repeat (first | refine blk_drewN ?_ _ | refine blk_drew ?_ | refine blk_alloc ?_ _)); refine blk_far ?_ NB165_170.out _; (with_reducible repeat (first | refine blk_drewN ?_ _ | refine blk_drew ?_ | refine blk_alloc ?_ _)); exact BK165.out) hb); have n2_ := Aside0.mk (blk_below (g := gb170) (o := .cells #[.int .i64 ((rd_T44 l0 x12_2).f0.f0), .int .i64 ((rd_T44 l0 x12_2).f0.f1), .int .i64 ((rd_T44 l0 x12_2).f0.f2), .int .i64 ((rd_T44 l0 x12_2).f1.f0), .int .i64 ((rd_T44 l0 x12_2).f1.f1), .int .i64 ((rd_T44 l0 x12_2).f1.f2)] 44 (0, 0)) (by (with_reducible repeat (first | refine blk_drewN ?_ _ | refine blk_drew ?_ | refine blk_alloc ?_ _)); refine blk_put (cs := #[.int .i64 ((rd_T44 l0 x12_2).f0.f0), .int .i64 ((rd_T44 l0 x12_2).f0.f1), .int .i64 ((rd_T44 l0 x12_2).f0.f2), .int .i64 ((rd_T44 l0 x12_2).f1.f0), .int .i64 ((rd_T44 l0 x12_2).f1.f1), .int .i64 0]) ?_ 5 _ rfl; (with_reducible repeat (first | refine blk_drewN ?_ _ | refine blk_drew ?_ | refine blk_alloc ?_ _)); refine blk_put (cs := #[.int .i64 ((rd_T44 l0 x12_2).f0.f0), .int .i64 ((rd_T44 l0 x12_2).f0.f1), .int .i64 ((rd_T44 l0 x12_2).f0.f2), .int .i64 ((rd_T44 l0 x12_2).f1.f0), .int .i64 0, .int .i64 0]) ?_ 4 _ rfl; (with_reducible repeat (first | refine blk_drewN ?_ _ | refine blk_drew ?_ | refine blk_alloc ?_ _)); refine blk_put (cs := #[.int .i64 ((rd_T44 l0 x12_2).f0.f0), .int .i64 ((rd_T44 l0 x12_2).f0.f1), .int .i64 ((rd_T44 l0 x12_2).f0.f2), .int .i64 0, .int .i64 0, .int .i64 0]) ?_ 3 _ rfl; (with_reducible repeat (first | refine blk_drewN ?_ _ | refine blk_drew ?_ | refine blk_alloc ?_ _)); refine blk_put (cs := #[.int .i64 ((rd_T44 l0 x12_2).f0.f0), .int .i64 ((rd_T44 l0 x12_2).f0.f1), .int .i64 0, .int .i64 0, .int .i64 0, .int .i64 0]) ?_ 2 _ rfl; (with_reducible repeat (first | refine blk_drewN ?_ _ | refine blk_drew ?_ | refine blk_alloc ?_ _)); refine blk_put (cs := #[.int .i64 ((rd_T44 l0 x12_2).f0.f0), .int .i64 0, .int .i64 0, .int .i64 0, .int .i64 0, .int .i64 0]) ?_ 1 _ rfl; (with_reducible repeat (first | refine blk_drewN ?_ _ | refine blk_drew ?_ | refine blk_alloc ?_ _)); refine blk_put (cs := #[.int .i64 0, .int .i64 0, .int .i64 0, .int .i64 0, .int .i64 0, .int .i64 0]) ?_ 0 _ rfl; (with_reducible repeat (first | refine blk_drewN ?_ _ | refine blk_drew ?_ | refine blk_alloc ?_ _)); exact BK170.out) hb); have n3_ := Aside0.mk (below_step (by repeat (first | (with_reducible first | exact HB.out | apply below_alloc | apply pw_below_drewN | apply below_drew1 | refine below_set ?_ GE165.out | refine below_set ?_ GE170.out) | exact HB.out)) hb); clear HO_5; clear BK165; clear BK170; clear HB; have HO_5 := n0_; have BK165 := n1_; have BK170 := n2_; have HB := n3_; clear n0_ n1_ n2_ n3_; (try clear hb); (try clear hb2); (try clear hk); (try clear hi); have hcz24_0 : w23.cell? ⟨gb170, 0, none⟩ = some (.int .i64 ((rd_T44 l0 x12_2).f0.f0)) := (blk_cell BK170.out 0).trans rfl; have hcz24_1 : w23.cell? ⟨gb170, 1, none⟩ = some (.int .i64 ((rd_T44 l0 x12_2).f0.f1)) := (blk_cell BK170.out 1).trans rfl; have hcz24_2 : w23.cell? ⟨gb170, 2, none⟩ = some (.int .i64 ((rd_T44 l0 x12_2).f0.f2)) := (blk_cell BK170.out 2).trans rfl; have hcz24_3 : w23.cell? ⟨gb170, 3, none⟩ = some (.int .i64 ((rd_T44 l0 x12_2).f1.f0)) := (blk_cell BK170.out 3).trans rfl; have hcz24_4 : w23.cell? ⟨gb170, 4, none⟩ = some (.int .i64 ((rd_T44 l0 x12_2).f1.f1)) := (blk_cell BK170.out 4).trans rfl; have hcz24_5 : w23.cell? ⟨gb170, 5, none⟩ = some (.int .i64 ((rd_T44 l0 x12_2).f1.f2)) := (blk_cell BK170.out 5).trans rfl; have hfz24_0 := blk_frozen BK170.out 0; have hfz24_1 := blk_frozen BK170.out 1; have hfz24_2 := blk_frozen BK170.out 2; have hfz24_3 := blk_frozen BK170.out 3; have hfz24_4 := blk_frozen BK170.out 4; have hfz24_5 := blk_frozen BK170.out 5) | ((with_reducible refine gate_builtin (b := .append) (xs := #[.tmp 33, .tmp 36]) rfl ?_); at_builtin; refine Kd.R_append k24 (w0 := w) w.heap.size rfl (.tmp 33) (.tmp 36) 27 24 (.agg #[(.int .i64 0), (.int .i64 0), (.int .i64 0)]) 24 rfl Try.underlying27 info24 rfl (by decide) (by omega) (.slice Ao22 x5_2.length co22) x5_2 (⟨(rd_T44 l0 x12_2).f1.f0, (rd_T44 l0 x12_2).f1.f1, (rd_T44 l0 x12_2).f1.f2⟩ : S24) [.int .i64 ((rd_T44 l0 x12_2).f1.f0), .int .i64 ((rd_T44 l0 x12_2).f1.f1), .int .i64 ((rd_T44 l0 x12_2).f1.f2)] (fun k_ => k_ ≠ gb165) (fun _ => False) rfl rfl ?aP (fun _ hk => hk.elim) ?aF ?aO ?aB ?aS ?aL ?_; (case aP => exact k24_mkM _ _ _ (⟨(rd_T44 l0 x12_2).f1.f0, (rd_T44 l0 x12_2).f1.f1, (rd_T44 l0 x12_2).f1.f2⟩ : S24)); (case aB => exact (by repeat (first | (with_reducible first | exact HB.out | apply below_alloc | apply pw_below_drewN | apply below_drew1 | refine below_set ?_ GE165.out | refine below_set ?_ GE170.out) | exact HB.out))); (case aF => exact (fun k_ hk => Kd.freshB (g := gb165) (o := .cells #[.int .i64 a1_0, .int .i64 a1_1, .int .i64 a1_2] 24 (0, 0)) (by (with_reducible repeat (first | refine blk_drewN ?_ _ | refine blk_drew ?_ | refine blk_alloc ?_ _)); exact BK165.out) k_ hk)); (case aO => exact (by (with_reducible repeat (first | apply Kd.R_alloc | apply Kd.R_drewN | apply Kd.R_drew)); exact HO_5.out)); (case aS => exact (below_size (by repeat (first | (with_reducible first | exact HB.out | apply below_alloc | apply pw_below_drewN | apply below_drew1 | refine below_set ?_ GE165.out | refine below_set ?_ GE170.out) | exact HB.out)))); (case aL => have := LMc17.out; omega); intro v173 w25 ho hb hg hat; rw [← Ny172.out] at ho; have n0_ := Aside0.mk (blk_grown (g := gb165) (o := .cells #[.int .i64 a1_0, .int .i64 a1_1, .int .i64 a1_2] 24 (0, 0)) (by (with_reducible repeat (first | refine blk_drewN ?_ _ | refine blk_drew ?_ | refine blk_alloc ?_ _)); exact BK165.out) hg (Kd.R_away HO_5.out (fun _ hk => hk))); have n1_ := Aside0.mk (blk_grown (g := gb170) (o := .cells #[.int .i64 ((rd_T44 l0 x12_2).f0.f0), .int .i64 ((rd_T44 l0 x12_2).f0.f1), .int .i64 ((rd_T44 l0 x12_2).f0.f2), .int .i64 ((rd_T44 l0 x12_2).f1.f0), .int .i64 ((rd_T44 l0 x12_2).f1.f1), .int .i64 ((rd_T44 l0 x12_2).f1.f2)] 44 (0, 0)) (by (with_reducible repeat (first | refine blk_drewN ?_ _ | refine blk_drew ?_ | refine blk_alloc ?_ _)); exact BK170.out) hg (Kd.R_ne HO_5.out BK170.out (by decide))); have n2_ := Aside0.mk (hb); have n3_ := Aside0.mk (ho); clear BK165; clear BK170; clear HB; clear HO_5; have BK165 := n0_; have BK170 := n1_; have HB := n2_; have HO174 := n3_; clear n0_ n1_ n2_ n3_; clear ho hb hg hat))
                        go_roundg k2
                        case measure => have := HK1.out; have := HK2.out; omega
                        case rel => exact ⟨(y172), (true), (wrap64 (x12_2 + 1)), (by first | rfl | (simp; done) | (simp [*]; done) | (simp [isEmpty_bne]; done)), (by first | rfl | (simp; done) | (simp [*]; done) | (simp [isEmpty_bne]; done)), H', ⟨by have := HK1.out; have := HK2.out; omega⟩, ⟨by (with_reducible repeat (first | apply Kd.R_alloc | apply Kd.R_drewN | apply Kd.R_drew)); exact HO174.out⟩, ⟨by (with_reducible repeat (first | refine blk_drewN ?_ _ | refine blk_drew ?_ | refine blk_alloc ?_ _)); exact BK165.out⟩, ⟨by repeat (first | (with_reducible first | exact HB.out | apply below_alloc | apply pw_below_drewN | apply below_drew1 | refine below_set ?_ GE165.out | refine below_set ?_ GE170.out) | exact HB.out)⟩⟩
                      · rw [if_neg c17] at H
                        exact absurd H (by simp)
                  · rw [if_neg c8] at H
                    have c8b0 : (((rd_T44 l0 x12_2).f0.f0) == a1_0 && (((rd_T44 l0 x12_2).f0.f1) == a1_1 && (((rd_T44 l0 x12_2).f0.f2) == a1_2))) = false := by simpa using c8
                    (try (have c8b1 : decide (((rd_T44 l0 x12_2).f0.f0) = a1_0 && (((rd_T44 l0 x12_2).f0.f1) == a1_1 && (((rd_T44 l0 x12_2).f0.f2) == a1_2))) = false := by simpa using c8))
                    (try (have c8b2 : (((rd_T44 l0 x12_2).f0.f0) == a1_0 && (((rd_T44 l0 x12_2).f0.f1) == a1_1 && (((rd_T44 l0 x12_2).f0.f2) == a1_2))) = false := by simpa using c8))
                    (try (have c8b3 : ¬ (((rd_T44 l0 x12_2).f0.f0) = a1_0 && (((rd_T44 l0 x12_2).f0.f1) == a1_1 && (((rd_T44 l0 x12_2).f0.f2) == a1_2))) := by simpa using c8))
                    clear c8
                    replace H := Option.bind_eq_some_iff.mp H
                    obtain ⟨t175, A260, H⟩ := H
                    replace H : (if t175 = true then ((api_QKey_23.f k2 x5_2 ((rd_T44 l0 x12_2).f1.f0) ((rd_T44 l0 x12_2).f1.f1) ((rd_T44 l0 x12_2).f1.f2)).bind fun t176 => (if t176 = true then (glossatorref3_Reachable.l1 k2 l0 x5_2 x6_2 l0 (l0.length : Int) (wrap64 (x12_2 + 1)) a1_0 a1_1 a1_2) else (if x5_2.length < 5864062014805 then (glossatorref3_Reachable.l1 k2 l0 (x5_2 ++ [(⟨(rd_T44 l0 x12_2).f1.f0, (rd_T44 l0 x12_2).f1.f1, (rd_T44 l0 x12_2).f1.f2⟩ : S24)]) true l0 (l0.length : Int) (wrap64 (x12_2 + 1)) a1_0 a1_1 a1_2) else (none)))) else (glossatorref3_Reachable.l1 k2 l0 x5_2 x6_2 l0 (l0.length : Int) (wrap64 (x12_2 + 1)) a1_0 a1_1 a1_2)) = some r := H
                    have A26 := Aside0.mk A260
                    clear A260
                    by_cases c27 : t175 = true
                    · subst c27
                      have H1 : ((api_QKey_23.f k2 x5_2 ((rd_T44 l0 x12_2).f1.f0) ((rd_T44 l0 x12_2).f1.f1) ((rd_T44 l0 x12_2).f1.f2)).bind fun t176 => (if t176 = true then (glossatorref3_Reachable.l1 k2 l0 x5_2 x6_2 l0 (l0.length : Int) (wrap64 (x12_2 + 1)) a1_0 a1_1 a1_2) else (if x5_2.length < 5864062014805 then (glossatorref3_Reachable.l1 k2 l0 (x5_2 ++ [(⟨(rd_T44 l0 x12_2).f1.f0, (rd_T44 l0 x12_2).f1.f1, (rd_T44 l0 x12_2).f1.f2⟩ : S24)]) true l0 (l0.length : Int) (wrap64 (x12_2 + 1)) a1_0 a1_1 a1_2) else (none)))) = some r := by rw [if_pos rfl] at H; exact H
                      clear H
                      have H := H1
                      clear H1
                      replace H := Option.bind_eq_some_iff.mp H
                      obtain ⟨t176, A280, H⟩ := H
                      replace H : (if t176 = true then (glossatorref3_Reachable.l1 k2 l0 x5_2 x6_2 l0 (l0.length : Int) (wrap64 (x12_2 + 1)) a1_0 a1_1 a1_2) else (if x5_2.length < 5864062014805 then (glossatorref3_Reachable.l1 k2 l0 (x5_2 ++ [(⟨(rd_T44 l0 x12_2).f1.f0, (rd_T44 l0 x12_2).f1.f1, (rd_T44 l0 x12_2).f1.f2⟩ : S24)]) true l0 (l0.length : Int) (wrap64 (x12_2 + 1)) a1_0 a1_1 a1_2) else (none))) = some r := H
                      have A28 := Aside0.mk A280
                      clear A280
                      by_cases c29 : t176 = true
                      · subst c29
                        have H1 : (glossatorref3_Reachable.l1 k2 l0 x5_2 x6_2 l0 (l0.length : Int) (wrap64 (x12_2 + 1)) a1_0 a1_1 a1_2) = some r := by rw [if_pos rfl] at H; exact H
                        clear H
                        have H := H1
                        clear H1
                        have H' := Aside0.mk H
                        clear H
                        have p169 : 0 ≤ (x12_2 : Int) := of_decide_eq_true (by first | (with_reducible assumption) | assumption)
                        have q169 : x12_2 < (l0.length : Int) := of_decide_eq_true (by first | (with_reducible assumption) | assumption)
                        obtain ⟨ad169, e169, hx169_0, hx169_1, hx169_2, hx169_3, hx169_4, hx169_5⟩ := at_T44 HR0.out x12_2 p169 q169
                        cases e169
                        replace hx169_0 := (HB.out.cell (World.block_lt_of_cell? w _ hx169_0)).trans hx169_0
                        replace hx169_1 := (HB.out.cell (World.block_lt_of_cell? w _ hx169_1)).trans hx169_1
                        replace hx169_2 := (HB.out.cell (World.block_lt_of_cell? w _ hx169_2)).trans hx169_2
                        replace hx169_3 := (HB.out.cell (World.block_lt_of_cell? w _ hx169_3)).trans hx169_3
                        replace hx169_4 := (HB.out.cell (World.block_lt_of_cell? w _ hx169_4)).trans hx169_4
                        replace hx169_5 := (HB.out.cell (World.block_lt_of_cell? w _ hx169_5)).trans hx169_5
                        replace p169 := eq_true p169
                        replace q169 := eq_true q169
                        go_wp2_with (first | ((with_reducible refine gate_dst (N := 8) rfl ?_); refine box_event ?hg (N := 8) ?hd (cs := #[.int .i64 0, .int .i64 0, .int .i64 0, .int .i64 0, .int .i64 0, .int .i64 0]) (t := 44) ?hr ?_; (case hd => rfl); (case hg => rfl); (case hr => first | (go_simp; done) | (go_simp; rfl)); intro gb170 hg w30 hbox hb; have n0_ := Aside0.mk (Kd.R_below (by (with_reducible repeat (first | apply Kd.R_alloc | apply Kd.R_drewN | apply Kd.R_drew)); exact HO_5.out) hb); have n1_ := Aside0.mk (blk_below (g := gb165) (o := .cells #[.int .i64 a1_0, .int .i64 a1_1, .int .i64 a1_2] 24 (0, 0)) (by (with_reducible repeat (first | refine blk_drewN ?_ _ | refine blk_drew ?_ | refine blk_alloc ?_ _)); exact BK165.out) hb); have n2_ := Aside0.mk (below_step (by repeat (first | (with_reducible first | exact HB.out | apply below_alloc | apply pw_below_drewN | apply below_drew1 | refine below_set ?_ GE165.out) | exact HB.out)) hb); have n3_ := Aside0.mk (hbox); have n4_ := Aside0.mk ((by rw [hg]; exact (below_size (by repeat (first | (with_reducible first | exact HB.out | apply below_alloc | apply pw_below_drewN | apply below_drew1 | refine below_set ?_ GE165.out) | exact HB.out))) : w.heap.size ≤ gb170)); have n5_ := Aside0.mk ((by rw [hg]; exact (below_size (by repeat (first | (with_reducible first | exact HB.out | apply below_alloc | apply pw_below_drewN | apply below_drew1 | refine below_set ?_ GE165.out) | exact HB.out))) : w.heap.size ≤ gb170)); have n6_ := Aside0.mk ((by rw [hg]; exact Nat.ne_of_lt (blk_lt (g := gb165) (o := .cells #[.int .i64 a1_0, .int .i64 a1_1, .int .i64 a1_2] 24 (0, 0)) (by (with_reducible repeat (first | refine blk_drewN ?_ _ | refine blk_drew ?_ | refine blk_alloc ?_ _)); exact BK165.out)) : gb165 ≠ gb170)); have n7_ := Aside0.mk ((by rw [hg]; exact Nat.ne_of_gt (blk_lt (g := gb165) (o := .cells #[.int .i64 a1_0, .int .i64 a1_1, .int .i64 a1_2] 24 (0, 0)) (by (with_reducible repeat (first | refine blk_drewN ?_ _ | refine blk_drew ?_ | refine blk_alloc ?_ _)); exact BK165.out)) : gb170 ≠ gb165)); clear HO_5; clear BK165; clear HB; have HO_5 := n0_; have BK165 := n1_; have HB := n2_; have BK170 := n3_; have GW170 := n4_; have GE170 := n5_; have NB165_170 := n6_; have NB170_165 := n7_; clear n0_ n1_ n2_ n3_ n4_ n5_ n6_ n7_; clear hb hbox hg; have hnb31 := NB170_165.out; have hnc31 := NB165_170.out; have hcz32_0 : w30.cell? ⟨gb170, 0, none⟩ = some (.int .i64 0) := (blk_cell BK170.out 0).trans rfl; have hcz32_1 : w30.cell? ⟨gb170, 1, none⟩ = some (.int .i64 0) := (blk_cell BK170.out 1).trans rfl; have hcz32_2 : w30.cell? ⟨gb170, 2, none⟩ = some (.int .i64 0) := (blk_cell BK170.out 2).trans rfl; have hcz32_3 : w30.cell? ⟨gb170, 3, none⟩ = some (.int .i64 0) := (blk_cell BK170.out 3).trans rfl; have hcz32_4 : w30.cell? ⟨gb170, 4, none⟩ = some (.int .i64 0) := (blk_cell BK170.out 4).trans rfl; have hcz32_5 : w30.cell? ⟨gb170, 5, none⟩ = some (.int .i64 0) := (blk_cell BK170.out 5).trans rfl; have hfz32_0 := blk_frozen BK170.out 0; have hfz32_1 := blk_frozen BK170.out 1; have hfz32_2 := blk_frozen BK170.out 2; have hfz32_3 := blk_frozen BK170.out 3; have hfz32_4 := blk_frozen BK170.out 4; have hfz32_5 := blk_frozen BK170.out 5; have hcz33_0 : w30.cell? ⟨gb165, 0, none⟩ = some (.int .i64 a1_0) := (blk_cell BK165.out 0).trans rfl; have hcz33_1 : w30.cell? ⟨gb165, 1, none⟩ = some (.int .i64 a1_1) := (blk_cell BK165.out 1).trans rfl; have hcz33_2 : w30.cell? ⟨gb165, 2, none⟩ = some (.int .i64 a1_2) := (blk_cell BK165.out 2).trans rfl; have hfz33_0 := blk_frozen BK165.out 0; have hfz33_1 := blk_frozen BK165.out 1; have hfz33_2 := blk_frozen BK165.out 2; obtain ⟨Ao34, co34, eo34⟩ := Kd.R_slice HO_5.out; subst eo34) | (go_at_call 23; (with_reducible refine (api_QKey_23.calls k2 _ _ x5_2 ((rd_T44 l0 x12_2).f0.f0) ((rd_T44 l0 x12_2).f0.f1) ((rd_T44 l0 x12_2).f0.f2) true _ ?side1 ?side2 A26.out).mono ?_); (case side1 => refine (Kd.R_reads' (e := 24) (base := w.heap.size) (ok := fun k_ => k_ ≠ gb165) (n := x5_2.length) (c := co34) ?_).2.2; exact (by (with_reducible repeat (first | apply Kd.R_alloc | apply Kd.R_drewN | apply Kd.R_drew)); exact (Kd.R_mono (Kd.R_far (p := ⟨gb170, 5, none⟩) (Kd.R_far (p := ⟨gb170, 4, none⟩) (Kd.R_far (p := ⟨gb170, 3, none⟩) (Kd.R_far (p := ⟨gb170, 2, none⟩) (Kd.R_far (p := ⟨gb170, 1, none⟩) (Kd.R_far (p := ⟨gb170, 0, none⟩) (Kd.R_types HO_5.out BK170.out (by decide)) (fun _ hk => hk.2) (.int .i64 ((rd_T44 l0 x12_2).f0.f0))) (fun _ hk => hk.2) (.int .i64 ((rd_T44 l0 x12_2).f0.f1))) (fun _ hk => hk.2) (.int .i64 ((rd_T44 l0 x12_2).f0.f2))) (fun _ hk => hk.2) (.int .i64 ((rd_T44 l0 x12_2).f1.f0))) (fun _ hk => hk.2) (.int .i64 ((rd_T44 l0 x12_2).f1.f1))) (fun _ hk => hk.2) (.int .i64 ((rd_T44 l0 x12_2).f1.f2))) (fun _ h_ => h_.1)))); (case side2 => exact (Kd.R_reads' HO_5.out).2.1); rintro e w35 ⟨rfl, hb⟩; have n0_ := Aside0.mk (Kd.R_below (by (with_reducible repeat (first | apply Kd.R_alloc | apply Kd.R_drewN | apply Kd.R_drew)); exact (Kd.R_mono (Kd.R_far (p := ⟨gb170, 5, none⟩) (Kd.R_far (p := ⟨gb170, 4, none⟩) (Kd.R_far (p := ⟨gb170, 3, none⟩) (Kd.R_far (p := ⟨gb170, 2, none⟩) (Kd.R_far (p := ⟨gb170, 1, none⟩) (Kd.R_far (p := ⟨gb170, 0, none⟩) (Kd.R_types HO_5.out BK170.out (by decide)) (fun _ hk => hk.2) (.int .i64 ((rd_T44 l0 x12_2).f0.f0))) (fun _ hk => hk.2) (.int .i64 ((rd_T44 l0 x12_2).f0.f1))) (fun _ hk => hk.2) (.int .i64 ((rd_T44 l0 x12_2).f0.f2))) (fun _ hk => hk.2) (.int .i64 ((rd_T44 l0 x12_2).f1.f0))) (fun _ hk => hk.2) (.int .i64 ((rd_T44 l0 x12_2).f1.f1))) (fun _ hk => hk.2) (.int .i64 ((rd_T44 l0 x12_2).f1.f2))) (fun _ h_ => h_.1))) hb); have n1_ := Aside0.mk (blk_below (g := gb165) (o := .cells #[.int .i64 a1_0, .int .i64 a1_1, .int .i64 a1_2] 24 (0, 0)) (by (with_reducible repeat (first | refine blk_drewN ?_ _ | refine blk_drew ?_ | refine blk_alloc ?_ _)); refine blk_far ?_ NB165_170.out _; (with_reducible repeat (first | refine blk_drewN ?_ _ | refine blk_drew ?_ | refine blk_alloc ?_ _)); refine blk_far ?_ NB165_170.out _; (with_reducible repeat (first | refine blk_drewN ?_ _ | refine blk_drew ?_ | refine blk_alloc ?_ _)); refine blk_far ?_ NB165_170.out _; (with_reducible repeat (first | refine blk_drewN ?_ _ | refine blk_drew ?_ | refine blk_alloc ?_ _)); refine blk_far ?_ NB165_170.out _; (with_reducible repeat (first | refine blk_drewN ?_ _ | refine blk_drew ?_ | refine blk_alloc ?_ _)); refine blk_far ?_ NB165_170.out _; (with_reducible repeat (first | refine blk_drewN ?_ _ | refine blk_drew ?_ | refine blk_alloc ?_ _)); refine blk_far ?_ NB165_170.out _; (with_reducible repeat (first | refine blk_drewN ?_ _ | refine blk_drew ?_ | refine blk_alloc ?_ _)); exact BK165.out) hb); have n2_ := Aside0.mk (blk_below (g := gb170) (o := .cells #[.int .i64 ((rd_T44 l0 x12_2).f0.f0), .int .i64 ((rd_T44 l0 x12_2).f0.f1), .int .i64 ((rd_T44 l0 x12_2).f0.f2), .int .i64 ((rd_T44 l0 x12_2).f1.f0), .int .i64 ((rd_T44 l0 x12_2).f1.f1), .int .i64 ((rd_T44 l0 x12_2).f1.f2)] 44 (0, 0)) (by (with_reducible repeat (first | refine blk_drewN ?_ _ | refine blk_drew ?_ | refine blk_alloc ?_ _)); refine blk_put (cs := #[.int .i64 ((rd_T44 l0 x12_2).f0.f0), .int .i64 ((rd_T44 l0 x12_2).f0.f1), .int .i64 ((rd_T44 l0 x12_2).f0.f2), .int .i64 ((rd_T44 l0 x12_2).f1.f0), .int .i64 ((rd_T44 l0 x12_2).f1.f1), .int .i64 0]) ?_ 5 _ rfl; (with_reducible repeat (first | refine blk_drewN ?_ _ | refine blk_drew ?_ | refine blk_alloc ?_ _)); refine blk_put (cs := #[.int .i64 ((rd_T44 l0 x12_2).f0.f0), .int .i64 ((rd_T44 l0 x12_2).f0.f1), .int .i64 ((rd_T44 l0 x12_2).f0.f2), .int .i64 ((rd_T44 l0 x12_2).f1.f0), .int .i64 0, .int .i64 0]) ?_ 4 _ rfl; (with_reducible repeat (first | refine blk_drewN ?_ _ | refine blk_drew ?_ | refine blk_alloc ?_ _)); refine blk_put (cs := #[.int .i64 ((rd_T44 l0 x12_2).f0.f0), .int .i64 ((rd_T44 l0 x12_2).f0.f1), .int .i64 ((rd_T44 l0 x12_2).f0.f2), .int .i64 0, .int .i64 0, .int .i64 0]) ?_ 3 _ rfl; (with_reducible repeat (first | refine blk_drewN ?_ _ | refine blk_drew ?_ | refine blk_alloc ?_ _)); refine blk_put (cs := #[.int .i64 ((rd_T44 l0 x12_2).f0.f0), .int .i64 ((rd_T44 l0 x12_2).f0.f1), .int .i64 0, .int .i64 0, .int .i64 0, .int .i64 0]) ?_ 2 _ rfl; (with_reducible repeat (first | refine blk_drewN ?_ _ | refine blk_drew ?_ | refine blk_alloc ?_ _)); refine blk_put (cs := #[.int .i64 ((rd_T44 l0 x12_2).f0.f0), .int .i64 0, .int .i64 0, .int .i64 0, .int .i64 0, .int .i64 0]) ?_ 1 _ rfl; (with_reducible repeat (first | refine blk_drewN ?_ _ | refine blk_drew ?_ | refine blk_alloc ?_ _)); refine blk_put (cs := #[.int .i64 0, .int .i64 0, .int .i64 0, .int .i64 0, .int .i64 0, .int .i64 0]) ?_ 0 _ rfl; (with_reducible repeat (first | refine blk_drewN ?_ _ | refine blk_drew ?_ | refine blk_alloc ?_ _)); exact BK170.out) hb); have n3_ := Aside0.mk (below_step (by repeat (first | (with_reducible first | exact HB.out | apply below_alloc | apply pw_below_drewN | apply below_drew1 | refine below_set ?_ GE165.out | refine below_set ?_ GE170.out) | exact HB.out)) hb); clear HO_5; clear BK165; clear BK170; clear HB; have HO_5 := n0_; have BK165 := n1_; have BK170 := n2_; have HB := n3_; clear n0_ n1_ n2_ n3_; (try clear hb); (try clear hb2); (try clear hk); (try clear hi); have hcz36_0 : w35.cell? ⟨gb170, 0, none⟩ = some (.int .i64 ((rd_T44 l0 x12_2).f0.f0)) := (blk_cell BK170.out 0).trans rfl; have hcz36_1 : w35.cell? ⟨gb170, 1, none⟩ = some (.int .i64 ((rd_T44 l0 x12_2).f0.f1)) := (blk_cell BK170.out 1).trans rfl; have hcz36_2 : w35.cell? ⟨gb170, 2, none⟩ = some (.int .i64 ((rd_T44 l0 x12_2).f0.f2)) := (blk_cell BK170.out 2).trans rfl; have hcz36_3 : w35.cell? ⟨gb170, 3, none⟩ = some (.int .i64 ((rd_T44 l0 x12_2).f1.f0)) := (blk_cell BK170.out 3).trans rfl; have hcz36_4 : w35.cell? ⟨gb170, 4, none⟩ = some (.int .i64 ((rd_T44 l0 x12_2).f1.f1)) := (blk_cell BK170.out 4).trans rfl; have hcz36_5 : w35.cell? ⟨gb170, 5, none⟩ = some (.int .i64 ((rd_T44 l0 x12_2).f1.f2)) := (blk_cell BK170.out 5).trans rfl; have hfz36_0 := blk_frozen BK170.out 0; have hfz36_1 := blk_frozen BK170.out 1; have hfz36_2 := blk_frozen BK170.out 2; have hfz36_3 := blk_frozen BK170.out 3; have hfz36_4 := blk_frozen BK170.out 4; have hfz36_5 := blk_frozen BK170.out 5) | (go_at_call 23; (with_reducible refine (api_QKey_23.calls k2 _ _ x5_2 ((rd_T44 l0 x12_2).f1.f0) ((rd_T44 l0 x12_2).f1.f1) ((rd_T44 l0 x12_2).f1.f2) true _ ?side1 ?side2 A28.out).mono ?_); (case side1 => repeat (first | exact (Kd.R_reads' HO_5.out).2.2 | (with_reducible refine Kd.C_alloc ?_ _) | (with_reducible refine Kd.C_drewN ?_ _) | (with_reducible refine Kd.C_drew ?_))); (case side2 => exact (Kd.R_reads' HO_5.out).2.1); rintro e w37 ⟨rfl, hb⟩; have n0_ := Aside0.mk (Kd.R_below (by (with_reducible repeat (first | apply Kd.R_alloc | apply Kd.R_drewN | apply Kd.R_drew)); exact HO_5.out) hb); have n1_ := Aside0.mk (blk_below (g := gb165) (o := .cells #[.int .i64 a1_0, .int .i64 a1_1, .int .i64 a1_2] 24 (0, 0)) (by (with_reducible repeat (first | refine blk_drewN ?_ _ | refine blk_drew ?_ | refine blk_alloc ?_ _)); exact BK165.out) hb); have n2_ := Aside0.mk (blk_below (g := gb170) (o := .cells #[.int .i64 ((rd_T44 l0 x12_2).f0.f0), .int .i64 ((rd_T44 l0 x12_2).f0.f1), .int .i64 ((rd_T44 l0 x12_2).f0.f2), .int .i64 ((rd_T44 l0 x12_2).f1.f0), .int .i64 ((rd_T44 l0 x12_2).f1.f1), .int .i64 ((rd_T44 l0 x12_2).f1.f2)] 44 (0, 0)) (by (with_reducible repeat (first | refine blk_drewN ?_ _ | refine blk_drew ?_ | refine blk_alloc ?_ _)); exact BK170.out) hb); have n3_ := Aside0.mk (below_step (by repeat (first | (with_reducible first | exact HB.out | apply below_alloc | apply pw_below_drewN | apply below_drew1 | refine below_set ?_ GE165.out | refine below_set ?_ GE170.out) | exact HB.out)) hb); clear HO_5; clear BK165; clear BK170; clear HB; have HO_5 := n0_; have BK165 := n1_; have BK170 := n2_; have HB := n3_; clear n0_ n1_ n2_ n3_; (try clear hb); (try clear hb2); (try clear hk); (try clear hi)))
                        go_roundg k2
                        case measure => have := HK1.out; have := HK2.out; omega
                        case rel => exact ⟨(x5_2), (x6_2), (wrap64 (x12_2 + 1)), (by first | rfl | (simp; done) | (simp [*]; done) | (simp [isEmpty_bne]; done)), (by first | rfl | (simp; done) | (simp [*]; done) | (simp [isEmpty_bne]; done)), H', ⟨by have := HK1.out; have := HK2.out; omega⟩, ⟨by (with_reducible repeat (first | apply Kd.R_alloc | apply Kd.R_drewN | apply Kd.R_drew)); exact HO_5.out⟩, ⟨by (with_reducible repeat (first | refine blk_drewN ?_ _ | refine blk_drew ?_ | refine blk_alloc ?_ _)); exact BK165.out⟩, ⟨by repeat (first | (with_reducible first | exact HB.out | apply below_alloc | apply pw_below_drewN | apply below_drew1 | refine below_set ?_ GE165.out | refine below_set ?_ GE170.out) | exact HB.out)⟩⟩
                      · replace c29 := Bool.eq_false_iff.mpr c29
                        subst c29
                        have H1 : (if x5_2.length < 5864062014805 then (glossatorref3_Reachable.l1 k2 l0 (x5_2 ++ [(⟨(rd_T44 l0 x12_2).f1.f0, (rd_T44 l0 x12_2).f1.f1, (rd_T44 l0 x12_2).f1.f2⟩ : S24)]) true l0 (l0.length : Int) (wrap64 (x12_2 + 1)) a1_0 a1_1 a1_2) else (none)) = some r := by rw [if_neg (show ¬ (false = true) by decide)] at H; exact H
                        clear H
                        have H := H1
                        clear H1
                        by_cases c38 : x5_2.length < 5864062014805
                        · rw [if_pos c38] at H
                          have LMc38 := Aside0.mk c38
                          clear c38
                          obtain ⟨y177, hy177⟩ : ∃ y_ : List (S24), y_ = (x5_2 ++ [(⟨(rd_T44 l0 x12_2).f1.f0, (rd_T44 l0 x12_2).f1.f1, (rd_T44 l0 x12_2).f1.f2⟩ : S24)]) := ⟨_, rfl⟩
                          replace H : (glossatorref3_Reachable.l1 k2 l0 y177 true l0 (l0.length : Int) (wrap64 (x12_2 + 1)) a1_0 a1_1 a1_2) = some r := by first | (rw [hy177]; with_reducible exact H) | (have H2_ := (Option.bind_some _ _).symm.trans H; rw [hy177]; with_reducible exact H2_) | (have H2_ := (Option.bind_some _ _).symm.trans H; with_reducible exact H2_) | with_reducible exact H | (rw [hy177]; exact H) | exact H
                          have Ny177 := Aside0.mk hy177
                          clear hy177
                          have H' := Aside0.mk H
                          clear H
                          have p169 : 0 ≤ (x12_2 : Int) := of_decide_eq_true (by first | (with_reducible assumption) | assumption)
                          have q169 : x12_2 < (l0.length : Int) := of_decide_eq_true (by first | (with_reducible assumption) | assumption)
                          obtain ⟨ad169, e169, hx169_0, hx169_1, hx169_2, hx169_3, hx169_4, hx169_5⟩ := at_T44 HR0.out x12_2 p169 q169
                          cases e169
                          replace hx169_0 := (HB.out.cell (World.block_lt_of_cell? w _ hx169_0)).trans hx169_0
                          replace hx169_1 := (HB.out.cell (World.block_lt_of_cell? w _ hx169_1)).trans hx169_1
                          replace hx169_2 := (HB.out.cell (World.block_lt_of_cell? w _ hx169_2)).trans hx169_2
                          replace hx169_3 := (HB.out.cell (World.block_lt_of_cell? w _ hx169_3)).trans hx169_3
                          replace hx169_4 := (HB.out.cell (World.block_lt_of_cell? w _ hx169_4)).trans hx169_4
                          replace hx169_5 := (HB.out.cell (World.block_lt_of_cell? w _ hx169_5)).trans hx169_5
                          replace p169 := eq_true p169
                          replace q169 := eq_true q169
                          go_wp2_with (first | ((with_reducible refine gate_dst (N := 8) rfl ?_); refine box_event ?hg (N := 8) ?hd (cs := #[.int .i64 0, .int .i64 0, .int .i64 0, .int .i64 0, .int .i64 0, .int .i64 0]) (t := 44) ?hr ?_; (case hd => rfl); (case hg => rfl); (case hr => first | (go_simp; done) | (go_simp; rfl)); intro gb170 hg w39 hbox hb; have n0_ := Aside0.mk (Kd.R_below (by (with_reducible repeat (first | apply Kd.R_alloc | apply Kd.R_drewN | apply Kd.R_drew)); exact HO_5.out) hb); have n1_ := Aside0.mk (blk_below (g := gb165) (o := .cells #[.int .i64 a1_0, .int .i64 a1_1, .int .i64 a1_2] 24 (0, 0)) (by (with_reducible repeat (first | refine blk_drewN ?_ _ | refine blk_drew ?_ | refine blk_alloc ?_ _)); exact BK165.out) hb); have n2_ := Aside0.mk (below_step (by repeat (first | (with_reducible first | exact HB.out | apply below_alloc | apply pw_below_drewN | apply below_drew1 | refine below_set ?_ GE165.out) | exact HB.out)) hb); have n3_ := Aside0.mk (hbox); have n4_ := Aside0.mk ((by rw [hg]; exact (below_size (by repeat (first | (with_reducible first | exact HB.out | apply below_alloc | apply pw_below_drewN | apply below_drew1 | refine below_set ?_ GE165.out) | exact HB.out))) : w.heap.size ≤ gb170)); have n5_ := Aside0.mk ((by rw [hg]; exact (below_size (by repeat (first | (with_reducible first | exact HB.out | apply below_alloc | apply pw_below_drewN | apply below_drew1 | refine below_set ?_ GE165.out) | exact HB.out))) : w.heap.size ≤ gb170)); have n6_ := Aside0.mk ((by rw [hg]; exact Nat.ne_of_lt (blk_lt (g := gb165) (o := .cells #[.int .i64 a1_0, .int .i64 a1_1, .int .i64 a1_2] 24 (0, 0)) (by (with_reducible repeat (first | refine blk_drewN ?_ _ | refine blk_drew ?_ | refine blk_alloc ?_ _)); exact BK165.out)) : gb165 ≠ gb170)); have n7_ := Aside0.mk ((by rw [hg]; exact Nat.ne_of_gt (blk_lt (g := gb165) (o := .cells #[.int .i64 a1_0, .int .i64 a1_1, .int .i64 a1_2] 24 (0, 0)) (by (with_reducible repeat (first | refine blk_drewN ?_ _ | refine blk_drew ?_ | refine blk_alloc ?_ _)); exact BK165.out)) : gb170 ≠ gb165)); clear HO_5; clear BK165; clear HB; have HO_5 := n0_; have BK165 := n1_; have HB := n2_; have BK170 := n3_; have GW170 := n4_; have GE170 := n5_; have NB165_170 := n6_; have NB170_165 := n7_; clear n0_ n1_ n2_ n3_ n4_ n5_ n6_ n7_; clear hb hbox hg; have hnb40 := NB170_165.out; have hnc40 := NB165_170.out; have hcz41_0 : w39.cell? ⟨gb170, 0, none⟩ = some (.int .i64 0) := (blk_cell BK170.out 0).trans rfl; have hcz41_1 : w39.cell? ⟨gb170, 1, none⟩ = some (.int .i64 0) := (blk_cell BK170.out 1).trans rfl; have hcz41_2 : w39.cell? ⟨gb170, 2, none⟩ = some (.int .i64 0) := (blk_cell BK170.out 2).trans rfl; have hcz41_3 : w39.cell? ⟨gb170, 3, none⟩ = some (.int .i64 0) := (blk_cell BK170.out 3).trans rfl; have hcz41_4 : w39.cell? ⟨gb170, 4, none⟩ = some (.int .i64 0) := (blk_cell BK170.out 4).trans rfl; have hcz41_5 : w39.cell? ⟨gb170, 5, none⟩ = some (.int .i64 0) := (blk_cell BK170.out 5).trans rfl; have hfz41_0 := blk_frozen BK170.out 0; have hfz41_1 := blk_frozen BK170.out 1; have hfz41_2 := blk_frozen BK170.out 2; have hfz41_3 := blk_frozen BK170.out 3; have hfz41_4 := blk_frozen BK170.out 4; have hfz41_5 := blk_frozen BK170.out 5; have hcz42_0 : w39.cell? ⟨gb165, 0, none⟩ = some (.int .i64 a1_0) := (blk_cell BK165.out 0).trans rfl; have hcz42_1 : w39.cell? ⟨gb165, 1, none⟩ = some (.int .i64 a1_1) := (blk_cell BK165.out 1).trans rfl; have hcz42_2 : w39.cell? ⟨gb165, 2, none⟩ = some (.int .i64 a1_2) := (blk_cell BK165.out 2).trans rfl; have hfz42_0 := blk_frozen BK165.out 0; have hfz42_1 := blk_frozen BK165.out 1; have hfz42_2 := blk_frozen BK165.out 2; obtain ⟨Ao43, co43, eo43⟩ := Kd.R_slice HO_5.out; subst eo43) | (go_at_call 23; (with_reducible refine (api_QKey_23.calls k2 _ _ x5_2 ((rd_T44 l0 x12_2).f0.f0) ((rd_T44 l0 x12_2).f0.f1) ((rd_T44 l0 x12_2).f0.f2) true _ ?side1 ?side2 A26.out).mono ?_); (case side1 => refine (Kd.R_reads' (e := 24) (base := w.heap.size) (ok := fun k_ => k_ ≠ gb165) (n := x5_2.length) (c := co43) ?_).2.2; exact (by (with_reducible repeat (first | apply Kd.R_alloc | apply Kd.R_drewN | apply Kd.R_drew)); exact (Kd.R_mono (Kd.R_far (p := ⟨gb170, 5, none⟩) (Kd.R_far (p := ⟨gb170, 4, none⟩) (Kd.R_far (p := ⟨gb170, 3, none⟩) (Kd.R_far (p := ⟨gb170, 2, none⟩) (Kd.R_far (p := ⟨gb170, 1, none⟩) (Kd.R_far (p := ⟨gb170, 0, none⟩) (Kd.R_types HO_5.out BK170.out (by decide)) (fun _ hk => hk.2) (.int .i64 ((rd_T44 l0 x12_2).f0.f0))) (fun _ hk => hk.2) (.int .i64 ((rd_T44 l0 x12_2).f0.f1))) (fun _ hk => hk.2) (.int .i64 ((rd_T44 l0 x12_2).f0.f2))) (fun _ hk => hk.2) (.int .i64 ((rd_T44 l0 x12_2).f1.f0))) (fun _ hk => hk.2) (.int .i64 ((rd_T44 l0 x12_2).f1.f1))) (fun _ hk => hk.2) (.int .i64 ((rd_T44 l0 x12_2).f1.f2))) (fun _ h_ => h_.1)))); (case side2 => exact (Kd.R_reads' HO_5.out).2.1); rintro e w44 ⟨rfl, hb⟩; have n0_ := Aside0.mk (Kd.R_below (by (with_reducible repeat (first | apply Kd.R_alloc | apply Kd.R_drewN | apply Kd.R_drew)); exact (Kd.R_mono (Kd.R_far (p := ⟨gb170, 5, none⟩) (Kd.R_far (p := ⟨gb170, 4, none⟩) (Kd.R_far (p := ⟨gb170, 3, none⟩) (Kd.R_far (p := ⟨gb170, 2, none⟩) (Kd.R_far (p := ⟨gb170, 1, none⟩) (Kd.R_far (p := ⟨gb170, 0, none⟩) (Kd.R_types HO_5.out BK170.out (by decide)) (fun _ hk => hk.2) (.int .i64 ((rd_T44 l0 x12_2).f0.f0))) (fun _ hk => hk.2) (.int .i64 ((rd_T44 l0 x12_2).f0.f1))) (fun _ hk => hk.2) (.int .i64 ((rd_T44 l0 x12_2).f0.f2))) (fun _ hk => hk.2) (.int .i64 ((rd_T44 l0 x12_2).f1.f0))) (fun _ hk => hk.2) (.int .i64 ((rd_T44 l0 x12_2).f1.f1))) (fun _ hk => hk.2) (.int .i64 ((rd_T44 l0 x12_2).f1.f2))) (fun _ h_ => h_.1))) hb); have n1_ := Aside0.mk (blk_below (g := gb165) (o := .cells #[.int .i64 a1_0, .int .i64 a1_1, .int .i64 a1_2] 24 (0, 0)) (by (with_reducible repeat (first | refine blk_drewN ?_ _ | refine blk_drew ?_ | refine blk_alloc ?_ _)); refine blk_far ?_ NB165_170.out _; (with_reducible repeat (first | refine blk_drewN ?_ _ | refine blk_drew ?_ | refine blk_alloc ?_ _)); refine blk_far ?_ NB165_170.out _; (with_reducible repeat (first | refine blk_drewN ?_ _ | refine blk_drew ?_ | refine blk_alloc ?_ _)); refine blk_far ?_ NB165_170.out _; (with_reducible repeat (first | refine blk_drewN ?_ _ | refine blk_drew ?_ | refine blk_alloc ?_ _)); refine blk_far ?_ NB165_170.out _; (with_reducible repeat (first | refine blk_drewN ?_ _ | refine blk_drew ?_ | refine blk_alloc ?_ _)); refine blk_far ?_ NB165_170.out _; (with_reducible repeat (first | refine blk_drewN ?_ _ | refine blk_drew ?_ | refine blk_alloc ?_ _)); refine blk_far ?_ NB165_170.out _; (with_reducible repeat (first | refine blk_drewN ?_ _ | refine blk_drew ?_ | refine blk_alloc ?_ _)); exact BK165.out) hb); have n2_ := Aside0.mk (blk_below (g := gb170) (o := .cells #[.int .i64 ((rd_T44 l0 x12_2).f0.f0), .int .i64 ((rd_T44 l0 x12_2).f0.f1), .int .i64 ((rd_T44 l0 x12_2).f0.f2), .int .i64 ((rd_T44 l0 x12_2).f1.f0), .int .i64 ((rd_T44 l0 x12_2).f1.f1), .int .i64 ((rd_T44 l0 x12_2).f1.f2)] 44 (0, 0)) (by (with_reducible repeat (first | refine blk_drewN ?_ _ | refine blk_drew ?_ | refine blk_alloc ?_ _)); refine blk_put (cs := #[.int .i64 ((rd_T44 l0 x12_2).f0.f0), .int .i64 ((rd_T44 l0 x12_2).f0.f1), .int .i64 ((rd_T44 l0 x12_2).f0.f2), .int .i64 ((rd_T44 l0 x12_2).f1.f0), .int .i64 ((rd_T44 l0 x12_2).f1.f1), .int .i64 0]) ?_ 5 _ rfl; (with_reducible repeat (first | refine blk_drewN ?_ _ | refine blk_drew ?_ | refine blk_alloc ?_ _)); refine blk_put (cs := #[.int .i64 ((rd_T44 l0 x12_2).f0.f0), .int .i64 ((rd_T44 l0 x12_2).f0.f1), .int .i64 ((rd_T44 l0 x12_2).f0.f2), .int .i64 ((rd_T44 l0 x12_2).f1.f0), .int .i64 0, .int .i64 0]) ?_ 4 _ rfl; (with_reducible repeat (first | refine blk_drewN ?_ _ | refine blk_drew ?_ | refine blk_alloc ?_ _)); refine blk_put (cs := #[.int .i64 ((rd_T44 l0 x12_2).f0.f0), .int .i64 ((rd_T44 l0 x12_2).f0.f1), .int .i64 ((rd_T44 l0 x12_2).f0.f2), .int .i64 0, .int .i64 0, .int .i64 0]) ?_ 3 _ rfl; (with_reducible repeat (first | refine blk_drewN ?_ _ | refine blk_drew ?_ | refine blk_alloc ?_ _)); refine blk_put (cs := #[.int .i64 ((rd_T44 l0 x12_2).f0.f0), .int .i64 ((rd_T44 l0 x12_2).f0.f1), .int .i64 0, .int .i64 0, .int .i64 0, .int .i64 0]) ?_ 2 _ rfl; (with_reducible repeat (first | refine blk_drewN ?_ _ | refine blk_drew ?_ | refine blk_alloc ?_ _)); refine blk_put (cs := #[.int .i64 ((rd_T44 l0 x12_2).f0.f0), .int .i64 0, .int .i64 0, .int .i64 0, .int .i64 0, .int .i64 0]) ?_ 1 _ rfl; (with_reducible repeat (first | refine blk_drewN ?_ _ | refine blk_drew ?_ | refine blk_alloc ?_ _)); refine blk_put (cs := #[.int .i64 0, .int .i64 0, .int .i64 0, .int .i64 0, .int .i64 0, .int .i64 0]) ?_ 0 _ rfl; (with_reducible repeat (first | refine blk_drewN ?_ _ | refine blk_drew ?_ | refine blk_alloc ?_ _)); exact BK170.out) hb); have n3_ := Aside0.mk (below_step (by repeat (first | (with_reducible first | exact HB.out | apply below_alloc | apply pw_below_drewN | apply below_drew1 | refine below_set ?_ GE165.out | refine below_set ?_ GE170.out) | exact HB.out)) hb); clear HO_5; clear BK165; clear BK170; clear HB; have HO_5 := n0_; have BK165 := n1_; have BK170 := n2_; have HB := n3_; clear n0_ n1_ n2_ n3_; (try clear hb); (try clear hb2); (try clear hk); (try clear hi); have hcz45_0 : w44.cell? ⟨gb170, 0, none⟩ = some (.int .i64 ((rd_T44 l0 x12_2).f0.f0)) := (blk_cell BK170.out 0).trans rfl; have hcz45_1 : w44.cell? ⟨gb170, 1, none⟩ = some (.int .i64 ((rd_T44 l0 x12_2).f0.f1)) := (blk_cell BK170.out 1).trans rfl; have hcz45_2 : w44.cell? ⟨gb170, 2, none⟩ = some (.int .i64 ((rd_T44 l0 x12_2).f0.f2)) := (blk_cell BK170.out 2).trans rfl; have hcz45_3 : w44.cell? ⟨gb170, 3, none⟩ = some (.int .i64 ((rd_T44 l0 x12_2).f1.f0)) := (blk_cell BK170.out 3).trans rfl; have hcz45_4 : w44.cell? ⟨gb170, 4, none⟩ = some (.int .i64 ((rd_T44 l0 x12_2).f1.f1)) := (blk_cell BK170.out 4).trans rfl; have hcz45_5 : w44.cell? ⟨gb170, 5, none⟩ = some (.int .i64 ((rd_T44 l0 x12_2).f1.f2)) := (blk_cell BK170.out 5).trans rfl; have hfz45_0 := blk_frozen BK170.out 0; have hfz45_1 := blk_frozen BK170.out 1; have hfz45_2 := blk_frozen BK170.out 2; have hfz45_3 := blk_frozen BK170.out 3; have hfz45_4 := blk_frozen BK170.out 4; have hfz45_5 := blk_frozen BK170.out 5) | (go_at_call 23; (with_reducible refine (api_QKey_23.calls k2 _ _ x5_2 ((rd_T44 l0 x12_2).f1.f0) ((rd_T44 l0 x12_2).f1.f1) ((rd_T44 l0 x12_2).f1.f2) false _ ?side1 ?side2 A28.out).mono ?_); (case side1 => repeat (first | exact (Kd.R_reads' HO_5.out).2.2 | (with_reducible refine Kd.C_alloc ?_ _) | (with_reducible refine Kd.C_drewN ?_ _) | (with_reducible refine Kd.C_drew ?_))); (case side2 => exact (Kd.R_reads' HO_5.out).2.1); rintro e w46 ⟨rfl, hb⟩; have n0_ := Aside0.mk (Kd.R_below (by (with_reducible repeat (first | apply Kd.R_alloc | apply Kd.R_drewN | apply Kd.R_drew)); exact HO_5.out) hb); have n1_ := Aside0.mk (blk_below (g := gb165) (o := .cells #[.int .i64 a1_0, .int .i64 a1_1, .int .i64 a1_2] 24 (0, 0)) (by (with_reducible repeat (first | refine blk_drewN ?_ _ | refine blk_drew ?_ | refine blk_alloc ?_ _)); exact BK165.out) hb); have n2_ := Aside0.mk (blk_below (g := gb170) (o := .cells #[.int .i64 ((rd_T44 l0 x12_2).f0.f0), .int .i64 ((rd_T44 l0 x12_2).f0.f1), .int .i64 ((rd_T44 l0 x12_2).f0.f2), .int .i64 ((rd_T44 l0 x12_2).f1.f0), .int .i64 ((rd_T44 l0 x12_2).f1.f1), .int .i64 ((rd_T44 l0 x12_2).f1.f2)] 44 (0, 0)) (by (with_reducible repeat (first | refine blk_drewN ?_ _ | refine blk_drew ?_ | refine blk_alloc ?_ _)); exact BK170.out) hb); have n3_ := Aside0.mk (below_step (by repeat (first | (with_reducible first | exact HB.out | apply below_alloc | apply pw_below_drewN | apply below_drew1 | refine below_set ?_ GE165.out | refine below_set ?_ GE170.out) | exact HB.out)) hb); clear HO_5; clear BK165; clear BK170; clear HB; have HO_5 := n0_; have BK165 := n1_; have BK170 := n2_; have HB := n3_; clear n0_ n1_ n2_ n3_; (try clear hb); (try clear hb2); (try clear hk); (try clear hi); have hcz47_0 : w46.cell? ⟨gb170, 0, none⟩ = some (.int .i64 ((rd_T44 l0 x12_2).f0.f0)) := (blk_cell BK170.out 0).trans rfl; have hcz47_1 : w46.cell? ⟨gb170, 1, none⟩ = some (.int .i64 ((rd_T44 l0 x12_2).f0.f1)) := (blk_cell BK170.out 1).trans rfl; have hcz47_2 : w46.cell? ⟨gb170, 2, none⟩ = some (.int .i64 ((rd_T44 l0 x12_2).f0.f2)) := (blk_cell BK170.out 2).trans rfl; have hcz47_3 : w46.cell? ⟨gb170, 3, none⟩ = some (.int .i64 ((rd_T44 l0 x12_2).f1.f0)) := (blk_cell BK170.out 3).trans rfl; have hcz47_4 : w46.cell? ⟨gb170, 4, none⟩ = some (.int .i64 ((rd_T44 l0 x12_2).f1.f1)) := (blk_cell BK170.out 4).trans rfl; have hcz47_5 : w46.cell? ⟨gb170, 5, none⟩ = some (.int .i64 ((rd_T44 l0 x12_2).f1.f2)) := (blk_cell BK170.out 5).trans rfl; have hfz47_0 := blk_frozen BK170.out 0; have hfz47_1 := blk_frozen BK170.out 1; have hfz47_2 := blk_frozen BK170.out 2; have hfz47_3 := blk_frozen BK170.out 3; have hfz47_4 := blk_frozen BK170.out 4; have hfz47_5 := blk_frozen BK170.out 5) | ((with_reducible refine gate_builtin (b := .append) (xs := #[.tmp 33, .tmp 36]) rfl ?_); at_builtin; refine Kd.R_append k24 (w0 := w) w.heap.size rfl (.tmp 33) (.tmp 36) 27 24 (.agg #[(.int .i64 0), (.int .i64 0), (.int .i64 0)]) 24 rfl Try.underlying27 info24 rfl (by decide) (by omega) (.slice Ao43 x5_2.length co43) x5_2 (⟨(rd_T44 l0 x12_2).f1.f0, (rd_T44 l0 x12_2).f1.f1, (rd_T44 l0 x12_2).f1.f2⟩ : S24) [.int .i64 ((rd_T44 l0 x12_2).f1.f0), .int .i64 ((rd_T44 l0 x12_2).f1.f1), .int .i64 ((rd_T44 l0 x12_2).f1.f2)] (fun k_ => k_ ≠ gb165) (fun _ => False) rfl rfl ?aP (fun _ hk => hk.elim) ?aF ?aO ?aB ?aS ?aL ?_; (case aP => exact k24_mkM _ _ _ (⟨(rd_T44 l0 x12_2).f1.f0, (rd_T44 l0 x12_2).f1.f1, (rd_T44 l0 x12_2).f1.f2⟩ : S24)); (case aB => exact (by repeat (first | (with_reducible first | exact HB.out | apply below_alloc | apply pw_below_drewN | apply below_drew1 | refine below_set ?_ GE165.out | refine below_set ?_ GE170.out) | exact HB.out))); (case aF => exact (fun k_ hk => Kd.freshB (g := gb165) (o := .cells #[.int .i64 a1_0, .int .i64 a1_1, .int .i64 a1_2] 24 (0, 0)) (by (with_reducible repeat (first | refine blk_drewN ?_ _ | refine blk_drew ?_ | refine blk_alloc ?_ _)); exact BK165.out) k_ hk)); (case aO => exact (by (with_reducible repeat (first | apply Kd.R_alloc | apply Kd.R_drewN | apply Kd.R_drew)); exact HO_5.out)); (case aS => exact (below_size (by repeat (first | (with_reducible first | exact HB.out | apply below_alloc | apply pw_below_drewN | apply below_drew1 | refine below_set ?_ GE165.out | refine below_set ?_ GE170.out) | exact HB.out)))); (case aL => have := LMc38.out; omega); intro v178 w48 ho hb hg hat; rw [← Ny177.out] at ho; have n0_ := Aside0.mk (blk_grown (g := gb165) (o := .cells #[.int .i64 a1_0, .int .i64 a1_1, .int .i64 a1_2] 24 (0, 0)) (by (with_reducible repeat (first | refine blk_drewN ?_ _ | refine blk_drew ?_ | refine blk_alloc ?_ _)); exact BK165.out) hg (Kd.R_away HO_5.out (fun _ hk => hk))); have n1_ := Aside0.mk (blk_grown (g := gb170) (o := .cells #[.int .i64 ((rd_T44 l0 x12_2).f0.f0), .int .i64 ((rd_T44 l0 x12_2).f0.f1), .int .i64 ((rd_T44 l0 x12_2).f0.f2), .int .i64 ((rd_T44 l0 x12_2).f1.f0), .int .i64 ((rd_T44 l0 x12_2).f1.f1), .int .i64 ((rd_T44 l0 x12_2).f1.f2)] 44 (0, 0)) (by (with_reducible repeat (first | refine blk_drewN ?_ _ | refine blk_drew ?_ | refine blk_alloc ?_ _)); exact BK170.out) hg (Kd.R_ne HO_5.out BK170.out (by decide))); have n2_ := Aside0.mk (hb); have n3_ := Aside0.mk (ho); clear BK165; clear BK170; clear HB; clear HO_5; have BK165 := n0_; have BK170 := n1_; have HB := n2_; have HO179 := n3_; clear n0_ n1_ n2_ n3_; clear ho hb hg hat))
                          go_roundg k2
                          case measure => have := HK1.out; have := HK2.out; omega
                          case rel => exact ⟨(y177), (true), (wrap64 (x12_2 + 1)), (by first | rfl | (simp; done) | (simp [*]; done) | (simp [isEmpty_bne]; done)), (by first | rfl | (simp; done) | (simp [*]; done) | (simp [isEmpty_bne]; done)), H', ⟨by have := HK1.out; have := HK2.out; omega⟩, ⟨by (with_reducible repeat (first | apply Kd.R_alloc | apply Kd.R_drewN | apply Kd.R_drew)); exact HO179.out⟩, ⟨by (with_reducible repeat (first | refine blk_drewN ?_ _ | refine blk_drew ?_ | refine blk_alloc ?_ _)); exact BK165.out⟩, ⟨by repeat (first | (with_reducible first | exact HB.out | apply below_alloc | apply pw_below_drewN | apply below_drew1 | refine below_set ?_ GE165.out | refine below_set ?_ GE170.out) | exact HB.out)⟩⟩
                        · rw [if_neg c38] at H
                          exact absurd H (by simp)
                    · replace c27 := Bool.eq_false_iff.mpr c27
                      subst c27
                      have H1 : (glossatorref3_Reachable.l1 k2 l0 x5_2 x6_2 l0 (l0.length : Int) (wrap64 (x12_2 + 1)) a1_0 a1_1 a1_2) = some r := by rw [if_neg (show ¬ (false = true) by decide)] at H; exact H
                      clear H
                      have H := H1
                      clear H1
                      have H' := Aside0.mk H
                      clear H
                      have p169 : 0 ≤ (x12_2 : Int) := of_decide_eq_true (by first | (with_reducible assumption) | assumption)
                      have q169 : x12_2 < (l0.length : Int) := of_decide_eq_true (by first | (with_reducible assumption) | assumption)
                      obtain ⟨ad169, e169, hx169_0, hx169_1, hx169_2, hx169_3, hx169_4, hx169_5⟩ := at_T44 HR0.out x12_2 p169 q169
                      cases e169
                      replace hx169_0 := (HB.out.cell (World.block_lt_of_cell? w _ hx169_0)).trans hx169_0
                      replace hx169_1 := (HB.out.cell (World.block_lt_of_cell? w _ hx169_1)).trans hx169_1
                      replace hx169_2 := (HB.out.cell (World.block_lt_of_cell? w _ hx169_2)).trans hx169_2
                      replace hx169_3 := (HB.out.cell (World.block_lt_of_cell? w _ hx169_3)).trans hx169_3
                      replace hx169_4 := (HB.out.cell (World.block_lt_of_cell? w _ hx169_4)).trans hx169_4
                      replace hx169_5 := (HB.out.cell (World.block_lt_of_cell? w _ hx169_5)).trans hx169_5
                      replace p169 := eq_true p169
                      replace q169 := eq_true q169
                      go_wp2_with (first | ((with_reducible refine gate_dst (N := 8) rfl ?_); refine box_event ?hg (N := 8) ?hd (cs := #[.int .i64 0, .int .i64 0, .int .i64 0, .int .i64 0, .int .i64 0, .int .i64 0]) (t := 44) ?hr ?_; (case hd => rfl); (case hg => rfl); (case hr => first | (go_simp; done) | (go_simp; rfl)); intro gb170 hg w49 hbox hb; have n0_ := Aside0.mk (Kd.R_below (by (with_reducible repeat (first | apply Kd.R_alloc | apply Kd.R_drewN | apply Kd.R_drew)); exact HO_5.out) hb); have n1_ := Aside0.mk (blk_below (g := gb165) (o := .cells #[.int .i64 a1_0, .int .i64 a1_1, .int .i64 a1_2] 24 (0, 0)) (by (with_reducible repeat (first | refine blk_drewN ?_ _ | refine blk_drew ?_ | refine blk_alloc ?_ _)); exact BK165.out) hb); have n2_ := Aside0.mk (below_step (by repeat (first | (with_reducible first | exact HB.out | apply below_alloc | apply pw_below_drewN | apply below_drew1 | refine below_set ?_ GE165.out) | exact HB.out)) hb); have n3_ := Aside0.mk (hbox); have n4_ := Aside0.mk ((by rw [hg]; exact (below_size (by repeat (first | (with_reducible first | exact HB.out | apply below_alloc | apply pw_below_drewN | apply below_drew1 | refine below_set ?_ GE165.out) | exact HB.out))) : w.heap.size ≤ gb170)); have n5_ := Aside0.mk ((by rw [hg]; exact (below_size (by repeat (first | (with_reducible first | exact HB.out | apply below_alloc | apply pw_below_drewN | apply below_drew1 | refine below_set ?_ GE165.out) | exact HB.out))) : w.heap.size ≤ gb170)); have n6_ := Aside0.mk ((by rw [hg]; exact Nat.ne_of_lt (blk_lt (g := gb165) (o := .cells #[.int .i64 a1_0, .int .i64 a1_1, .int .i64 a1_2] 24 (0, 0)) (by (with_reducible repeat (first | refine blk_drewN ?_ _ | refine blk_drew ?_ | refine blk_alloc ?_ _)); exact BK165.out)) : gb165 ≠ gb170)); have n7_ := Aside0.mk ((by rw [hg]; exact Nat.ne_of_gt (blk_lt (g := gb165) (o := .cells #[.int .i64 a1_0, .int .i64 a1_1, .int .i64 a1_2] 24 (0, 0)) (by (with_reducible repeat (first | refine blk_drewN ?_ _ | refine blk_drew ?_ | refine blk_alloc ?_ _)); exact BK165.out)) : gb170 ≠ gb165)); clear HO_5; clear BK165; clear HB; have HO_5 := n0_; have BK165 := n1_; have HB := n2_; have BK170 := n3_; have GW170 := n4_; have GE170 := n5_; have NB165_170 := n6_; have NB170_165 := n7_; clear n0_ n1_ n2_ n3_ n4_ n5_ n6_ n7_; clear hb hbox hg; have hnb50 := NB170_165.out; have hnc50 := NB165_170.out; have hcz51_0 : w49.cell? ⟨gb170, 0, none⟩ = some (.int .i64 0) := (blk_cell BK170.out 0).trans rfl; have hcz51_1 : w49.cell? ⟨gb170, 1, none⟩ = some (.int .i64 0) := (blk_cell BK170.out 1).trans rfl; have hcz51_2 : w49.cell? ⟨gb170, 2, none⟩ = some (.int .i64 0) := (blk_cell BK170.out 2).trans rfl; have hcz51_3 : w49.cell? ⟨gb170, 3, none⟩ = some (.int .i64 0) := (blk_cell BK170.out 3).trans rfl; have hcz51_4 : w49.cell? ⟨gb170, 4, none⟩ = some (.int .i64 0) := (blk_cell BK170.out 4).trans rfl; have hcz51_5 : w49.cell? ⟨gb170, 5, none⟩ = some (.int .i64 0) := (blk_cell BK170.out 5).trans rfl; have hfz51_0 := blk_frozen BK170.out 0; have hfz51_1 := blk_frozen BK170.out 1; have hfz51_2 := blk_frozen BK170.out 2; have hfz51_3 := blk_frozen BK170.out 3; have hfz51_4 := blk_frozen BK170.out 4; have hfz51_5 := blk_frozen BK170.out 5; have hcz52_0 : w49.cell? ⟨gb165, 0, none⟩ = some (.int .i64 a1_0) := (blk_cell BK165.out 0).trans rfl; have hcz52_1 : w49.cell? ⟨gb165, 1, none⟩ = some (.int .i64 a1_1) := (blk_cell BK165.out 1).trans rfl; have hcz52_2 : w49.cell? ⟨gb165, 2, none⟩ = some (.int .i64 a1_2) := (blk_cell BK165.out 2).trans rfl; have hfz52_0 := blk_frozen BK165.out 0; have hfz52_1 := blk_frozen BK165.out 1; have hfz52_2 := blk_frozen BK165.out 2; obtain ⟨Ao53, co53, eo53⟩ := Kd.R_slice HO_5.out; subst eo53) | (go_at_call 23; (with_reducible refine (api_QKey_23.calls k2 _ _ x5_2 ((rd_T44 l0 x12_2).f0.f0) ((rd_T44 l0 x12_2).f0.f1) ((rd_T44 l0 x12_2).f0.f2) false _ ?side1 ?side2 A26.out).mono ?_); (case side1 => refine (Kd.R_reads' (e := 24) (base := w.heap.size) (ok := fun k_ => k_ ≠ gb165) (n := x5_2.length) (c := co53) ?_).2.2; exact (by (with_reducible repeat (first | apply Kd.R_alloc | apply Kd.R_drewN | apply Kd.R_drew)); exact (Kd.R_mono (Kd.R_far (p := ⟨gb170, 5, none⟩) (Kd.R_far (p := ⟨gb170, 4, none⟩) (Kd.R_far (p := ⟨gb170, 3, none⟩) (Kd.R_far (p := ⟨gb170, 2, none⟩) (Kd.R_far (p := ⟨gb170, 1, none⟩) (Kd.R_far (p := ⟨gb170, 0, none⟩) (Kd.R_types HO_5.out BK170.out (by decide)) (fun _ hk => hk.2) (.int .i64 ((rd_T44 l0 x12_2).f0.f0))) (fun _ hk => hk.2) (.int .i64 ((rd_T44 l0 x12_2).f0.f1))) (fun _ hk => hk.2) (.int .i64 ((rd_T44 l0 x12_2).f0.f2))) (fun _ hk => hk.2) (.int .i64 ((rd_T44 l0 x12_2).f1.f0))) (fun _ hk => hk.2) (.int .i64 ((rd_T44 l0 x12_2).f1.f1))) (fun _ hk => hk.2) (.int .i64 ((rd_T44 l0 x12_2).f1.f2))) (fun _ h_ => h_.1)))); (case side2 => exact (Kd.R_reads' HO_5.out).2.1); rintro e w54 ⟨rfl, hb⟩; have n0_ := Aside0.mk (Kd.R_below (by (with_reducible repeat (first | apply Kd.R_alloc | apply Kd.R_drewN | apply Kd.R_drew)); exact (Kd.R_mono (Kd.R_far (p := ⟨gb170, 5, none⟩) (Kd.R_far (p := ⟨gb170, 4, none⟩) (Kd.R_far (p := ⟨gb170, 3, none⟩) (Kd.R_far (p := ⟨gb170, 2, none⟩) (Kd.R_far (p := ⟨gb170, 1, none⟩) (Kd.R_far (p := ⟨gb170, 0, none⟩) (Kd.R_types HO_5.out BK170.out (by decide)) (fun _ hk => hk.2) (.int .i64 ((rd_T44 l0 x12_2).f0.f0))) (fun _ hk => hk.2) (.int .i64 ((rd_T44 l0 x12_2).f0.f1))) (fun _ hk => hk.2) (.int .i64 ((rd_T44 l0 x12_2).f0.f2))) (fun _ hk => hk.2) (.int .i64 ((rd_T44 l0 x12_2).f1.f0))) (fun _ hk => hk.2) (.int .i64 ((rd_T44 l0 x12_2).f1.f1))) (fun _ hk => hk.2) (.int .i64 ((rd_T44 l0 x12_2).f1.f2))) (fun _ h_ => h_.1))) hb); have n1_ := Aside0.mk (blk_below (g := gb165) (o := .cells #[.int .i64 a1_0, .int .i64 a1_1, .int .i64 a1_2] 24 (0, 0)) (by (with_reducible repeat (first | refine blk_drewN ?_ _ | refine blk_drew ?_ | refine blk_alloc ?_ _)); refine blk_far ?_ NB165_170.out _; (with_reducible repeat (first | refine blk_drewN ?_ _ | refine blk_drew ?_ | refine blk_alloc ?_ _)); refine blk_far ?_ NB165_170.out _; (with_reducible repeat (first | refine blk_drewN ?_ _ | refine blk_drew ?_ | refine blk_alloc ?_ _)); refine blk_far ?_ NB165_170.out _; (with_reducible repeat (first | refine blk_drewN ?_ _ | refine blk_drew ?_ | refine blk_alloc ?_ _)); refine blk_far ?_ NB165_170.out _; (with_reducible repeat (first | refine blk_drewN ?_ _ | refine blk_drew ?_ | refine blk_alloc ?_ _)); refine blk_far ?_ NB165_170.out _; (with_reducible repeat (first | refine blk_drewN ?_ _ | refine blk_drew ?_ | refine blk_alloc ?_ _)); refine blk_far ?_ NB165_170.out _; (with_reducible repeat (first | refine blk_drewN ?_ _ | refine blk_drew ?_ | refine blk_alloc ?_ _)); exact BK165.out) hb); have n2_ := Aside0.mk (blk_below (g := gb170) (o := .cells #[.int .i64 ((rd_T44 l0 x12_2).f0.f0), .int .i64 ((rd_T44 l0 x12_2).f0.f1), .int .i64 ((rd_T44 l0 x12_2).f0.f2), .int .i64 ((rd_T44 l0 x12_2).f1.f0), .int .i64 ((rd_T44 l0 x12_2).f1.f1), .int .i64 ((rd_T44 l0 x12_2).f1.f2)] 44 (0, 0)) (by (with_reducible repeat (first | refine blk_drewN ?_ _ | refine blk_drew ?_ | refine blk_alloc ?_ _)); refine blk_put (cs := #[.int .i64 ((rd_T44 l0 x12_2).f0.f0), .int .i64 ((rd_T44 l0 x12_2).f0.f1), .int .i64 ((rd_T44 l0 x12_2).f0.f2), .int .i64 ((rd_T44 l0 x12_2).f1.f0), .int .i64 ((rd_T44 l0 x12_2).f1.f1), .int .i64 0]) ?_ 5 _ rfl; (with_reducible repeat (first | refine blk_drewN ?_ _ | refine blk_drew ?_ | refine blk_alloc ?_ _)); refine blk_put (cs := #[.int .i64 ((rd_T44 l0 x12_2).f0.f0), .int .i64 ((rd_T44 l0 x12_2).f0.f1), .int .i64 ((rd_T44 l0 x12_2).f0.f2), .int .i64 ((rd_T44 l0 x12_2).f1.f0), .int .i64 0, .int .i64 0]) ?_ 4 _ rfl; (with_reducible repeat (first | refine blk_drewN ?_ _ | refine blk_drew ?_ | refine blk_alloc ?_ _)); refine blk_put (cs := #[.int .i64 ((rd_T44 l0 x12_2).f0.f0), .int .i64 ((rd_T44 l0 x12_2).f0.f1), .int .i64 ((rd_T44 l0 x12_2).f0.f2), .int .i64 0, .int .i64 0, .int .i64 0]) ?_ 3 _ rfl; (with_reducible repeat (first | refine blk_drewN ?_ _ | refine blk_drew ?_ | refine blk_alloc ?_ _)); refine blk_put (cs := #[.int .i64 ((rd_T44 l0 x12_2).f0.f0), .int .i64 ((rd_T44 l0 x12_2).f0.f1), .int .i64 0, .int .i64 0, .int .i64 0, .int .i64 0]) ?_ 2 _ rfl; (with_reducible repeat (first | refine blk_drewN ?_ _ | refine blk_drew ?_ | refine blk_alloc ?_ _)); refine blk_put (cs := #[.int .i64 ((rd_T44 l0 x12_2).f0.f0), .int .i64 0, .int .i64 0, .int .i64 0, .int .i64 0, .int .i64 0]) ?_ 1 _ rfl; (with_reducible repeat (first | refine blk_drewN ?_ _ | refine blk_drew ?_ | refine blk_alloc ?_ _)); refine blk_put (cs := #[.int .i64 0, .int .i64 0, .int .i64 0, .int .i64 0, .int .i64 0, .int .i64 0]) ?_ 0 _ rfl; (with_reducible repeat (first | refine blk_drewN ?_ _ | refine blk_drew ?_ | refine blk_alloc ?_ _)); exact BK170.out) hb); have n3_ := Aside0.mk (below_step (by repeat (first | (with_reducible first | exact HB.out | apply below_alloc | apply pw_below_drewN | apply below_drew1 | refine below_set ?_ GE165.out | refine below_set ?_ GE170.out) | exact HB.out)) hb); clear HO_5; clear BK165; clear BK170; clear HB; have HO_5 := n0_; have BK165 := n1_; have BK170 := n2_; have HB := n3_; clear n0_ n1_ n2_ n3_; (try clear hb); (try clear hb2); (try clear hk); (try clear hi)))
                      go_roundg k2
                      case measure => have := HK1.out; have := HK2.out; omega
                      case rel => exact ⟨(x5_2), (x6_2), (wrap64 (x12_2 + 1)), (by first | rfl | (simp; done) | (simp [*]; done) | (simp [isEmpty_bne]; done)), (by first | rfl | (simp; done) | (simp [*]; done) | (simp [isEmpty_bne]; done)), H', ⟨by have := HK1.out; have := HK2.out; omega⟩, ⟨by (with_reducible repeat (first | apply Kd.R_alloc | apply Kd.R_drewN | apply Kd.R_drew)); exact HO_5.out⟩, ⟨by (with_reducible repeat (first | refine blk_drewN ?_ _ | refine blk_drew ?_ | refine blk_alloc ?_ _)); exact BK165.out⟩, ⟨by repeat (first | (with_reducible first | exact HB.out | apply below_alloc | apply pw_below_drewN | apply below_drew1 | refine below_set ?_ GE165.out | refine below_set ?_ GE170.out) | exact HB.out)⟩⟩
                · rw [if_neg c7] at H
                  exact absurd H (by simp)
              · rw [if_neg c6] at H
                exact absurd H (by simp)
            · rw [if_neg c5] at H
              have c5b0 : decide (x12_2 < (l0.length : Int)) = false := decide_eq_false c5
              clear c5
              have H' := Aside0.mk H
              clear H
              go_wp2
              go_roundg k2
              case measure => have := HK1.out; have := HK2.out; omega
              case rel => exact ⟨(x5_2), (x6_2), (by first | rfl | (simp; done) | (simp [*]; done) | (simp [isEmpty_bne]; done)), H', ⟨by have := HK1.out; have := HK2.out; omega⟩, ⟨by (with_reducible repeat (first | apply Kd.R_alloc | apply Kd.R_drewN | apply Kd.R_drew)); exact HO_5.out⟩, ⟨by (with_reducible repeat (first | refine blk_drewN ?_ _ | refine blk_drew ?_ | refine blk_alloc ?_ _)); exact BK165.out⟩, ⟨by repeat (first | (with_reducible first | exact HB.out | apply below_alloc | apply pw_below_drewN | apply below_drew1 | refine below_set ?_ GE165.out) | exact HB.out)⟩⟩
      · replace c4 := Bool.eq_false_iff.mpr c4
        subst c4
        have H1 : ((glossatorref3_SortKeys.f x5_1).bind fun t166 => (some t166)) = some r := by rw [if_neg (show ¬ (false = true) by decide)] at H; exact H
        clear H
        have H := H1
        clear H1
        replace H := Option.bind_eq_some_iff.mp H
        obtain ⟨t166, A550, H⟩ := H
        replace H : (some t166) = some r := H
        have A55 := Aside0.mk A550
        clear A550
        obtain rfl := Option.some.inj H
        obtain ⟨Ao56, co56, eo56⟩ := Kd.R_slice HO_5.out
        subst eo56
        go_wp2_with (first | ((with_reducible refine gate_callee (f := 24) rfl ?_); refine goesL_ (some 40) rfl rfl Try.func24 (by kernel_rfl) rfl #[.slice Ao56 x5_1.length co56] rfl (by (try simp only [List.map_toArray, List.map_cons, List.map_nil]); first | done | rfl | (simp only [List.length_drop, List.length_take]; rfl)) ?_; (with_reducible refine (glossatorref3_SortKeys.calls _ _ x5_1 t166 _ ?side1 ?side2 A55.out).mono ?_); (case side1 => repeat (first | exact (Kd.R_reads' HO_5.out).2.2 | (with_reducible refine Kd.C_alloc ?_ _) | (with_reducible refine Kd.C_drewN ?_ _) | (with_reducible refine Kd.C_drew ?_))); (case side2 => exact (Kd.R_reads' HO_5.out).2.1); rintro e w57 ⟨v167, rfl, ho0, hb⟩; refine ⟨_, rfl, ?_⟩; have n0_ := Aside0.mk (Kd.R_elder' (by (with_reducible repeat (first | apply Kd.R_alloc | apply Kd.R_drewN | apply Kd.R_drew)); exact HO_5.out) (Kd.R_base ho0) hb); have n1_ := Aside0.mk (Kd.R_lower (Kd.R_newB (Kd.R_new' ho0 (Kd.R_lt (by (with_reducible repeat (first | apply Kd.R_alloc | apply Kd.R_drewN | apply Kd.R_drew)); exact HO_5.out))) (g := gb165) (o := .cells #[.int .i64 a1_0, .int .i64 a1_1, .int .i64 a1_2] 24 (0, 0)) (by (with_reducible repeat (first | refine blk_drewN ?_ _ | refine blk_drew ?_ | refine blk_alloc ?_ _)); exact BK165.out)) (below_size (by repeat (first | (with_reducible first | exact HB.out | apply below_alloc | apply pw_below_drewN | apply below_drew1 | refine below_set ?_ GE165.out) | exact HB.out)))); have n2_ := Aside0.mk (blk_below (g := gb165) (o := .cells #[.int .i64 a1_0, .int .i64 a1_1, .int .i64 a1_2] 24 (0, 0)) (by (with_reducible repeat (first | refine blk_drewN ?_ _ | refine blk_drew ?_ | refine blk_alloc ?_ _)); exact BK165.out) hb); have n3_ := Aside0.mk (below_step (by repeat (first | (with_reducible first | exact HB.out | apply below_alloc | apply pw_below_drewN | apply below_drew1 | refine below_set ?_ GE165.out) | exact HB.out)) hb); clear HO_5; clear BK165; clear HB; have HO_5 := n0_; have HO168 := n1_; have BK165 := n2_; have HB := n3_; clear n0_ n1_ n2_ n3_; (try clear hb); (try clear hb2); (try clear hk); (try clear hi); (try clear ho0)))
        go_ret
        exact ⟨_, by first | rfl | (simp [errW_none, errW_some] <;> rfl) | (simp [*, errW_none, errW_some] <;> rfl), by (with_reducible repeat (first | apply Kd.R_alloc | apply Kd.R_drewN | apply Kd.R_drew)); exact Kd.R_mono HO168.out (fun _ hk => trivial), by repeat (first | (with_reducible first | exact HB.out | apply below_alloc | apply pw_below_drewN | apply below_drew1 | refine below_set ?_ GE165.out) | exact HB.out)⟩

/-! ### glossatorref3_Nodes: function 28 -/
def glossatorref3_Nodes.l0 : Nat → List (S24) → List (S44) → Int → Int → Option ((List (S24)))
  | 0, _, _, _, _ => none
  | k + 1, x3, x6, x7, x8 => if x8 < x7 then (if 0 ≤ x8 then (if x8 < (x6.length : Int) then ((some (([(⟨(rd_T44 x6 x8).f0.f0, (rd_T44 x6 x8).f0.f1, (rd_T44 x6 x8).f0.f2⟩ : S24), (⟨(rd_T44 x6 x8).f1.f0, (rd_T44 x6 x8).f1.f1, (rd_T44 x6 x8).f1.f2⟩ : S24)] : List (S24)) : List (S24))).bind fun y182 => (if x3.length + y182.length < 5864062014805 then (glossatorref3_Nodes.l0 k (x3 ++ y182) x6 x7 (wrap64 (x8 + 1))) else (none))) else (none)) else (none)) else ((glossatorref3_SortKeys.f x3).bind fun t188 => (some t188))
def glossatorref3_Nodes.f (k : Nat) (l0 : List (S44)) : Option ((List (S24))) := glossatorref3_Nodes.l0 k ([] : List (S24)) l0 (l0.length : Int) 0
theorem glossatorref3_Nodes.mono_l : ∀ k, (∀ y0 y1 y2 y3, LeO (glossatorref3_Nodes.l0 k y0 y1 y2 y3) (glossatorref3_Nodes.l0 (k + 1) y0 y1 y2 y3))
  | 0 => fun _ _ _ _ r h => by simp [glossatorref3_Nodes.l0] at h
  | k + 1 => by
    have ih0 := glossatorref3_Nodes.mono_l k
    · intro y0 y1 y2 y3
      unfold glossatorref3_Nodes.l0
      repeat' first
      | (with_reducible exact ih0 _ _ _ _)
      | (with_reducible exact LeO.refl _)
      | (with_reducible exact LeO.none _)
      | (with_reducible refine LeO.ite ?_ ?_)
      | (with_reducible refine LeO.bind ?_ (fun _ => ?_))
      | exact ih0 _ _ _ _
      | exact LeO.none _
      | refine LeO.ite ?_ ?_
      | refine LeO.bind ?_ (fun _ => ?_)
theorem glossatorref3_Nodes.mono : ∀ a0 k, LeO (glossatorref3_Nodes.f k a0) (glossatorref3_Nodes.f (k + 1) a0) := by
  intro a0 k
  have ih0 := glossatorref3_Nodes.mono_l k
  unfold glossatorref3_Nodes.f
  repeat' first
      | (with_reducible exact ih0 _ _ _ _)
      | (with_reducible exact LeO.refl _)
      | (with_reducible exact LeO.none _)
      | (with_reducible refine LeO.ite ?_ ?_)
      | (with_reducible refine LeO.bind ?_ (fun _ => ?_))
      | exact ih0 _ _ _ _
      | exact LeO.none _
      | refine LeO.ite ?_ ?_
      | refine LeO.bind ?_ (fun _ => ?_)
set_option maxHeartbeats 8000000 in
set_option maxRecDepth 100000 in
theorem glossatorref3_Nodes.calls (k : Nat) (A0 : Option Addr) (c0 : Nat) (l0 : List (S44)) (r : List (S24)) (w : World) (hr0 : Kd.C k44 w A0 l0.length l0) (hc0 : l0.length ≤ c0) (h : glossatorref3_Nodes.f k l0 = some r) :
    Calls Try.prog 28 #[.slice A0 l0.length c0] w fun e w' => ∃ v0_ : Value, e = .returned (v0_) ∧ Kd.R k24 24 w' w.heap.size (fun _ => True) v0_ r ∧ Below w.heap.size w w' := by
  have hu44 := Try.underlying44
  have hu24 := Try.underlying24
  have HR0 := Aside0.mk hr0
  have HC0 := Aside0.mk hc0
  clear hr0 hc0
  have HB := Aside0.mk (Below.refl w.heap.size w)
  have H : (glossatorref3_Nodes.l0 k ([] : List (S24)) l0 (l0.length : Int) 0) = some r := h
  clear h
  have H' := Aside0.mk H
  clear H
  go_enter Try.func28, Try.ntmps28
  go_wp2
  go_loopg [3, 8] k (fun kq v3 v8 w' => ∃ (x3_1 : List (S24)) (x8_1 : Int), v8 = .int .i64 x8_1 ∧ Aside0 (glossatorref3_Nodes.l0 kq x3_1 l0 (l0.length : Int) x8_1 = some r) ∧ Aside0 (kq ≤ k) ∧ Aside0 (Kd.R k24 24 w' w.heap.size (fun _ => True) v3 x3_1) ∧ Aside0 (Below w.heap.size w w'))
  case atStart => exact ⟨(([] : List (S24))), (0), (by first | rfl | (simp; done) | (simp [*]; done) | (simp [isEmpty_bne]; done)), H', ⟨Nat.le_refl _⟩, ⟨by first | exact Kd.R_nil _ _ _ _ _ | exact Kd.N_nil _ _ _ _ _ | exact Kd.V_nil _ _ _ _ _ | exact Kd.Q_nil _ _ _ _ _ | exact Kd.S_nil _ _ _ _ _⟩, ⟨by repeat (first | (with_reducible first | exact HB.out | apply below_alloc | apply pw_below_drewN | apply below_drew1) | exact HB.out)⟩⟩
  case round =>
    clear H'
    obtain ⟨x3_1, x8_1, rfl, HA, HK1, HO_3, HB⟩ := hrel
    cases gk with
    | zero => exact absurd HA.out (by simp [glossatorref3_Nodes.l0])
    | succ k1 =>
      have H := HA.out
      clear HA
      simp only [glossatorref3_Nodes.l0] at H
      by_cases c2 : x8_1 < (l0.length : Int)
      · rw [if_pos c2] at H
        have c2b0 : decide (x8_1 < (l0.length : Int)) = true := decide_eq_true c2
        clear c2
        by_cases c3 : 0 ≤ x8_1
        · rw [if_pos c3] at H
          have c3b0 : decide (0 ≤ x8_1) = true := decide_eq_true c3
          clear c3
          by_cases c4 : x8_1 < (l0.length : Int)
          · rw [if_pos c4] at H
            have c4b0 : decide (x8_1 < (l0.length : Int)) = true := decide_eq_true c4
            clear c4
            obtain ⟨y182, hy182⟩ : ∃ y_ : List (S24), y_ = (([(⟨(rd_T44 l0 x8_1).f0.f0, (rd_T44 l0 x8_1).f0.f1, (rd_T44 l0 x8_1).f0.f2⟩ : S24), (⟨(rd_T44 l0 x8_1).f1.f0, (rd_T44 l0 x8_1).f1.f1, (rd_T44 l0 x8_1).f1.f2⟩ : S24)] : List (S24))) := ⟨_, rfl⟩
            replace H : (if x3_1.length + y182.length < 5864062014805 then (glossatorref3_Nodes.l0 k1 (x3_1 ++ y182) l0 (l0.length : Int) (wrap64 (x8_1 + 1))) else (none)) = some r := by first | (rw [hy182]; with_reducible exact H) | (have H2_ := (Option.bind_some _ _).symm.trans H; rw [hy182]; with_reducible exact H2_) | (have H2_ := (Option.bind_some _ _).symm.trans H; with_reducible exact H2_) | with_reducible exact H | (rw [hy182]; exact H) | exact H
            have Ny182 := Aside0.mk hy182
            clear hy182
            by_cases c5 : x3_1.length + y182.length < 5864062014805
            · rw [if_pos c5] at H
              have LMc5 := Aside0.mk c5
              clear c5
              obtain ⟨y185, hy185⟩ : ∃ y_ : List (S24), y_ = (x3_1 ++ y182) := ⟨_, rfl⟩
              replace H : (glossatorref3_Nodes.l0 k1 y185 l0 (l0.length : Int) (wrap64 (x8_1 + 1))) = some r := by first | (rw [hy185]; with_reducible exact H) | (have H2_ := (Option.bind_some _ _).symm.trans H; rw [hy185]; with_reducible exact H2_) | (have H2_ := (Option.bind_some _ _).symm.trans H; with_reducible exact H2_) | with_reducible exact H | (rw [hy185]; exact H) | exact H
              have Ny185 := Aside0.mk hy185
              clear hy185
              have H' := Aside0.mk H
              clear H
              have p180 : 0 ≤ (x8_1 : Int) := of_decide_eq_true (by first | (with_reducible assumption) | assumption)
              have q180 : x8_1 < (l0.length : Int) := of_decide_eq_true (by first | (with_reducible assumption) | assumption)
              obtain ⟨ad180, e180, hx180_0, hx180_1, hx180_2, hx180_3, hx180_4, hx180_5⟩ := at_T44 HR0.out x8_1 p180 q180
              cases e180
              replace hx180_0 := (HB.out.cell (World.block_lt_of_cell? w _ hx180_0)).trans hx180_0
              replace hx180_1 := (HB.out.cell (World.block_lt_of_cell? w _ hx180_1)).trans hx180_1
              replace hx180_2 := (HB.out.cell (World.block_lt_of_cell? w _ hx180_2)).trans hx180_2
              replace hx180_3 := (HB.out.cell (World.block_lt_of_cell? w _ hx180_3)).trans hx180_3
              replace hx180_4 := (HB.out.cell (World.block_lt_of_cell? w _ hx180_4)).trans hx180_4
              replace hx180_5 := (HB.out.cell (World.block_lt_of_cell? w _ hx180_5)).trans hx180_5
              replace p180 := eq_true p180
              replace q180 := eq_true q180
              go_wp2_with (first | ((with_reducible refine gate_dst (N := 5) rfl ?_); refine box_event ?hg (N := 5) ?hd (cs := #[.int .i64 0, .int .i64 0, .int .i64 0, .int .i64 0, .int .i64 0, .int .i64 0]) (t := 44) ?hr ?_; (case hd => rfl); (case hg => rfl); (case hr => first | (go_simp; done) | (go_simp; rfl)); intro gb181 hg w6 hbox hb; have n0_ := Aside0.mk (Kd.R_below (by (with_reducible repeat (first | apply Kd.R_alloc | apply Kd.R_drewN | apply Kd.R_drew)); exact HO_3.out) hb); have n1_ := Aside0.mk (below_step (by repeat (first | (with_reducible first | exact HB.out | apply below_alloc | apply pw_below_drewN | apply below_drew1) | exact HB.out)) hb); have n2_ := Aside0.mk (hbox); have n3_ := Aside0.mk ((by rw [hg]; exact (below_size (by repeat (first | (with_reducible first | exact HB.out | apply below_alloc | apply pw_below_drewN | apply below_drew1) | exact HB.out))) : w.heap.size ≤ gb181)); have n4_ := Aside0.mk ((by rw [hg]; exact (below_size (by repeat (first | (with_reducible first | exact HB.out | apply below_alloc | apply pw_below_drewN | apply below_drew1) | exact HB.out))) : w.heap.size ≤ gb181)); clear HO_3; clear HB; have HO_3 := n0_; have HB := n1_; have BK181 := n2_; have GW181 := n3_; have GE181 := n4_; clear n0_ n1_ n2_ n3_ n4_; clear hb hbox hg; have hcz7_0 : w6.cell? ⟨gb181, 0, none⟩ = some (.int .i64 0) := (blk_cell BK181.out 0).trans rfl; have hcz7_1 : w6.cell? ⟨gb181, 1, none⟩ = some (.int .i64 0) := (blk_cell BK181.out 1).trans rfl; have hcz7_2 : w6.cell? ⟨gb181, 2, none⟩ = some (.int .i64 0) := (blk_cell BK181.out 2).trans rfl; have hcz7_3 : w6.cell? ⟨gb181, 3, none⟩ = some (.int .i64 0) := (blk_cell BK181.out 3).trans rfl; have hcz7_4 : w6.cell? ⟨gb181, 4, none⟩ = some (.int .i64 0) := (blk_cell BK181.out 4).trans rfl; have hcz7_5 : w6.cell? ⟨gb181, 5, none⟩ = some (.int .i64 0) := (blk_cell BK181.out 5).trans rfl; have hfz7_0 := blk_frozen BK181.out 0; have hfz7_1 := blk_frozen BK181.out 1; have hfz7_2 := blk_frozen BK181.out 2; have hfz7_3 := blk_frozen BK181.out 3; have hfz7_4 := blk_frozen BK181.out 4; have hfz7_5 := blk_frozen BK181.out 5) | ((with_reducible refine gate_dst (N := 17) rfl ?_); refine Kd.R_lit k24 _ 24 ?hg (N := 17) ?hd (xs := ([(⟨(rd_T44 l0 x8_1).f0.f0, (rd_T44 l0 x8_1).f0.f1, (rd_T44 l0 x8_1).f0.f2⟩ : S24), (⟨(rd_T44 l0 x8_1).f1.f0, (rd_T44 l0 x8_1).f1.f1, (rd_T44 l0 x8_1).f1.f2⟩ : S24)] : List (S24))) (inner := [.int .i64 ((rd_T44 l0 x8_1).f0.f0), .int .i64 ((rd_T44 l0 x8_1).f0.f1), .int .i64 ((rd_T44 l0 x8_1).f0.f2), .int .i64 ((rd_T44 l0 x8_1).f1.f0), .int .i64 ((rd_T44 l0 x8_1).f1.f1), .int .i64 ((rd_T44 l0 x8_1).f1.f2)]) (ok := fun _ => True) (okp := fun _ => True) ?hr ?hp (fun _ hk => hk) trivial (Below.refl _ _) (Nat.le_refl _) (by simp) ?_; (case hd => rfl); (case hg => rfl); (case hr => first | (go_simp; done) | (go_simp; rfl)); (case hp => exact (Reps.c3 (show Kd.M k24 _ _ _ (⟨(rd_T44 l0 x8_1).f0.f0, (rd_T44 l0 x8_1).f0.f1, (rd_T44 l0 x8_1).f0.f2⟩ : S24) [.int .i64 ((rd_T44 l0 x8_1).f0.f0), .int .i64 ((rd_T44 l0 x8_1).f0.f1), .int .i64 ((rd_T44 l0 x8_1).f0.f2)] from (k24_mkM _ _ _ (⟨(rd_T44 l0 x8_1).f0.f0, (rd_T44 l0 x8_1).f0.f1, (rd_T44 l0 x8_1).f0.f2⟩ : S24) )) (Reps.c3 (show Kd.M k24 _ _ _ (⟨(rd_T44 l0 x8_1).f1.f0, (rd_T44 l0 x8_1).f1.f1, (rd_T44 l0 x8_1).f1.f2⟩ : S24) [.int .i64 ((rd_T44 l0 x8_1).f1.f0), .int .i64 ((rd_T44 l0 x8_1).f1.f1), .int .i64 ((rd_T44 l0 x8_1).f1.f2)] from (k24_mkM _ _ _ (⟨(rd_T44 l0 x8_1).f1.f0, (rd_T44 l0 x8_1).f1.f1, (rd_T44 l0 x8_1).f1.f2⟩ : S24) )) (Reps.none _ _)))); intro v183 w8 ho9 hb hg_ hnew_; clear hg_ hnew_; (first | rw [← Ny182.out] at ho9 | (simp only [Int.reduceToNat] at ho9; rw [← Ny182.out] at ho9)); have n0_ := Aside0.mk (Kd.R_elder' (by (with_reducible repeat (first | apply Kd.R_alloc | apply Kd.R_drewN | apply Kd.R_drew)); exact (Kd.R_mono (Kd.R_far (p := ⟨gb181, 5, none⟩) (Kd.R_far (p := ⟨gb181, 4, none⟩) (Kd.R_far (p := ⟨gb181, 3, none⟩) (Kd.R_far (p := ⟨gb181, 2, none⟩) (Kd.R_far (p := ⟨gb181, 1, none⟩) (Kd.R_far (p := ⟨gb181, 0, none⟩) (Kd.R_types HO_3.out BK181.out (by decide)) (fun _ hk => hk.2) (.int .i64 ((rd_T44 l0 x8_1).f0.f0))) (fun _ hk => hk.2) (.int .i64 ((rd_T44 l0 x8_1).f0.f1))) (fun _ hk => hk.2) (.int .i64 ((rd_T44 l0 x8_1).f0.f2))) (fun _ hk => hk.2) (.int .i64 ((rd_T44 l0 x8_1).f1.f0))) (fun _ hk => hk.2) (.int .i64 ((rd_T44 l0 x8_1).f1.f1))) (fun _ hk => hk.2) (.int .i64 ((rd_T44 l0 x8_1).f1.f2))) (fun _ h_ => h_.1))) (Kd.R_base ho9) hb); have n1_ := Aside0.mk (Kd.R_lower (Kd.R_new' ho9 (Kd.R_lt (by (with_reducible repeat (first | apply Kd.R_alloc | apply Kd.R_drewN | apply Kd.R_drew)); exact (Kd.R_mono (Kd.R_far (p := ⟨gb181, 5, none⟩) (Kd.R_far (p := ⟨gb181, 4, none⟩) (Kd.R_far (p := ⟨gb181, 3, none⟩) (Kd.R_far (p := ⟨gb181, 2, none⟩) (Kd.R_far (p := ⟨gb181, 1, none⟩) (Kd.R_far (p := ⟨gb181, 0, none⟩) (Kd.R_types HO_3.out BK181.out (by decide)) (fun _ hk => hk.2) (.int .i64 ((rd_T44 l0 x8_1).f0.f0))) (fun _ hk => hk.2) (.int .i64 ((rd_T44 l0 x8_1).f0.f1))) (fun _ hk => hk.2) (.int .i64 ((rd_T44 l0 x8_1).f0.f2))) (fun _ hk => hk.2) (.int .i64 ((rd_T44 l0 x8_1).f1.f0))) (fun _ hk => hk.2) (.int .i64 ((rd_T44 l0 x8_1).f1.f1))) (fun _ hk => hk.2) (.int .i64 ((rd_T44 l0 x8_1).f1.f2))) (fun _ h_ => h_.1))))) (below_size (by repeat (first | (with_reducible first | exact HB.out | apply below_alloc | apply pw_below_drewN | apply below_drew1 | refine below_set ?_ GE181.out) | exact HB.out)))); have n2_ := Aside0.mk (blk_below (g := gb181) (o := .cells #[.int .i64 ((rd_T44 l0 x8_1).f0.f0), .int .i64 ((rd_T44 l0 x8_1).f0.f1), .int .i64 ((rd_T44 l0 x8_1).f0.f2), .int .i64 ((rd_T44 l0 x8_1).f1.f0), .int .i64 ((rd_T44 l0 x8_1).f1.f1), .int .i64 ((rd_T44 l0 x8_1).f1.f2)] 44 (0, 0)) (by (with_reducible repeat (first | refine blk_drewN ?_ _ | refine blk_drew ?_ | refine blk_alloc ?_ _)); refine blk_put (cs := #[.int .i64 ((rd_T44 l0 x8_1).f0.f0), .int .i64 ((rd_T44 l0 x8_1).f0.f1), .int .i64 ((rd_T44 l0 x8_1).f0.f2), .int .i64 ((rd_T44 l0 x8_1).f1.f0), .int .i64 ((rd_T44 l0 x8_1).f1.f1), .int .i64 0]) ?_ 5 _ rfl; (with_reducible repeat (first | refine blk_drewN ?_ _ | refine blk_drew ?_ | refine blk_alloc ?_ _)); refine blk_put (cs := #[.int .i64 ((rd_T44 l0 x8_1).f0.f0), .int .i64 ((rd_T44 l0 x8_1).f0.f1), .int .i64 ((rd_T44 l0 x8_1).f0.f2), .int .i64 ((rd_T44 l0 x8_1).f1.f0), .int .i64 0, .int .i64 0]) ?_ 4 _ rfl; (with_reducible repeat (first | refine blk_drewN ?_ _ | refine blk_drew ?_ | refine blk_alloc ?_ _)); refine blk_put (cs := #[.int .i64 ((rd_T44 l0 x8_1).f0.f0), .int .i64 ((rd_T44 l0 x8_1).f0.f1), .int .i64 ((rd_T44 l0 x8_1).f0.f2), .int .i64 0, .int .i64 0, .int .i64 0]) ?_ 3 _ rfl; (with_reducible repeat (first | refine blk_drewN ?_ _ | refine blk_drew ?_ | refine blk_alloc ?_ _)); refine blk_put (cs := #[.int .i64 ((rd_T44 l0 x8_1).f0.f0), .int .i64 ((rd_T44 l0 x8_1).f0.f1), .int .i64 0, .int .i64 0, .int .i64 0, .int .i64 0]) ?_ 2 _ rfl; (with_reducible repeat (first | refine blk_drewN ?_ _ | refine blk_drew ?_ | refine blk_alloc ?_ _)); refine blk_put (cs := #[.int .i64 ((rd_T44 l0 x8_1).f0.f0), .int .i64 0, .int .i64 0, .int .i64 0, .int .i64 0, .int .i64 0]) ?_ 1 _ rfl; (with_reducible repeat (first | refine blk_drewN ?_ _ | refine blk_drew ?_ | refine blk_alloc ?_ _)); refine blk_put (cs := #[.int .i64 0, .int .i64 0, .int .i64 0, .int .i64 0, .int .i64 0, .int .i64 0]) ?_ 0 _ rfl; (with_reducible repeat (first | refine blk_drewN ?_ _ | refine blk_drew ?_ | refine blk_alloc ?_ _)); exact BK181.out) hb); have n3_ := Aside0.mk (below_step (by repeat (first | (with_reducible first | exact HB.out | apply below_alloc | apply pw_below_drewN | apply below_drew1 | refine below_set ?_ GE181.out) | exact HB.out)) hb); clear HO_3; clear BK181; clear HB; have HO_3 := n0_; have HO184 := n1_; have BK181 := n2_; have HB := n3_; clear n0_ n1_ n2_ n3_; clear hb ho9; obtain ⟨Ao11, co11, eo11⟩ := Kd.R_slice HO184.out; subst eo11) | ((with_reducible refine gate_builtin (b := .append) (xs := #[.tmp 12, .tmp 17]) rfl ?_); at_builtin; refine Kd.R_append_rows k24 (w0 := w) w.heap.size rfl (.tmp 12) (.tmp 17) 27 24 (.agg #[(.int .i64 0), (.int .i64 0), (.int .i64 0)]) 24 rfl Try.underlying27 info24 rfl (by decide) (by omega) u3 x3_1 y182 _ _ _ (fun k_ => some k_ ≠ (.slice Ao11 y182.length co11 : Value).ownBlock) (fun _ => False) rfl rfl ?aO ?aR (fun _ _ h => h) (fun _ h => h.elim) ?aF ?aB ?aS ?aL ?_; (case aR => repeat (first | exact (Kd.R_reads' HO184.out).2.2 | (with_reducible refine Kd.C_alloc ?_ _) | (with_reducible refine Kd.C_drewN ?_ _) | (with_reducible refine Kd.C_drew ?_))); (case aB => exact (by repeat (first | (with_reducible first | exact HB.out | apply below_alloc | apply pw_below_drewN | apply below_drew1 | refine below_set ?_ GE181.out) | exact HB.out))); (case aF => exact (fun k_ hk => Kd.fresh' (Kd.R_lt (by (with_reducible repeat (first | apply Kd.R_alloc | apply Kd.R_drewN | apply Kd.R_drew)); exact HO184.out)) k_ hk)); (case aO => exact (by (with_reducible repeat (first | apply Kd.R_alloc | apply Kd.R_drewN | apply Kd.R_drew)); exact Kd.R_mono HO_3.out (fun _ hk => hk.2))); (case aS => exact (below_size (by repeat (first | (with_reducible first | exact HB.out | apply below_alloc | apply pw_below_drewN | apply below_drew1 | refine below_set ?_ GE181.out) | exact HB.out)))); (case aL => have := LMc5.out; omega); intro v186 w10 ho hb hg hat; rw [← Ny185.out] at ho; have n0_ := Aside0.mk (blk_grown (g := gb181) (o := .cells #[.int .i64 ((rd_T44 l0 x8_1).f0.f0), .int .i64 ((rd_T44 l0 x8_1).f0.f1), .int .i64 ((rd_T44 l0 x8_1).f0.f2), .int .i64 ((rd_T44 l0 x8_1).f1.f0), .int .i64 ((rd_T44 l0 x8_1).f1.f1), .int .i64 ((rd_T44 l0 x8_1).f1.f2)] 44 (0, 0)) (by (with_reducible repeat (first | refine blk_drewN ?_ _ | refine blk_drew ?_ | refine blk_alloc ?_ _)); exact BK181.out) hg (Kd.R_ne HO_3.out BK181.out (by decide))); have n1_ := Aside0.mk (Kd.R_after (ok := (fun _ => True)) (by (with_reducible repeat (first | apply Kd.R_alloc | apply Kd.R_drewN | apply Kd.R_drew)); exact HO184.out) hg hat); have n2_ := Aside0.mk (hb); have n3_ := Aside0.mk (ho); clear BK181; clear HO184; clear HB; clear HO_3; have BK181 := n0_; have HO184 := n1_; have HB := n2_; have HO187 := n3_; clear n0_ n1_ n2_ n3_; clear ho hb hg hat))
              go_roundg k1
              case measure => have := HK1.out; omega
              case rel => exact ⟨(y185), (wrap64 (x8_1 + 1)), (by first | rfl | (simp; done) | (simp [*]; done) | (simp [isEmpty_bne]; done)), H', ⟨by have := HK1.out; omega⟩, ⟨by (with_reducible repeat (first | apply Kd.R_alloc | apply Kd.R_drewN | apply Kd.R_drew)); exact Kd.R_mono HO187.out (fun _ hk => trivial)⟩, ⟨by repeat (first | (with_reducible first | exact HB.out | apply below_alloc | apply pw_below_drewN | apply below_drew1 | refine below_set ?_ GE181.out) | exact HB.out)⟩⟩
            · rw [if_neg c5] at H
              exact absurd H (by simp)
          · rw [if_neg c4] at H
            exact absurd H (by simp)
        · rw [if_neg c3] at H
          exact absurd H (by simp)
      · rw [if_neg c2] at H
        have c2b0 : decide (x8_1 < (l0.length : Int)) = false := decide_eq_false c2
        clear c2
        replace H := Option.bind_eq_some_iff.mp H
        obtain ⟨t188, A120, H⟩ := H
        replace H : (some t188) = some r := H
        have A12 := Aside0.mk A120
        clear A120
        obtain rfl := Option.some.inj H
        obtain ⟨Ao13, co13, eo13⟩ := Kd.R_slice HO_3.out
        subst eo13
        go_wp2_with (first | ((with_reducible refine gate_callee (f := 24) rfl ?_); refine goesL_ (some 21) rfl rfl Try.func24 (by kernel_rfl) rfl #[.slice Ao13 x3_1.length co13] rfl (by (try simp only [List.map_toArray, List.map_cons, List.map_nil]); first | done | rfl | (simp only [List.length_drop, List.length_take]; rfl)) ?_; (with_reducible refine (glossatorref3_SortKeys.calls _ _ x3_1 t188 _ ?side1 ?side2 A12.out).mono ?_); (case side1 => repeat (first | exact (Kd.R_reads' HO_3.out).2.2 | (with_reducible refine Kd.C_alloc ?_ _) | (with_reducible refine Kd.C_drewN ?_ _) | (with_reducible refine Kd.C_drew ?_))); (case side2 => exact (Kd.R_reads' HO_3.out).2.1); rintro e w14 ⟨v189, rfl, ho0, hb⟩; refine ⟨_, rfl, ?_⟩; have n0_ := Aside0.mk (Kd.R_elder' (by (with_reducible repeat (first | apply Kd.R_alloc | apply Kd.R_drewN | apply Kd.R_drew)); exact HO_3.out) (Kd.R_base ho0) hb); have n1_ := Aside0.mk (Kd.R_lower (Kd.R_new' ho0 (Kd.R_lt (by (with_reducible repeat (first | apply Kd.R_alloc | apply Kd.R_drewN | apply Kd.R_drew)); exact HO_3.out))) (below_size (by repeat (first | (with_reducible first | exact HB.out | apply below_alloc | apply pw_below_drewN | apply below_drew1) | exact HB.out)))); have n2_ := Aside0.mk (below_step (by repeat (first | (with_reducible first | exact HB.out | apply below_alloc | apply pw_below_drewN | apply below_drew1) | exact HB.out)) hb); clear HO_3; clear HB; have HO_3 := n0_; have HO190 := n1_; have HB := n2_; clear n0_ n1_ n2_; (try clear hb); (try clear hb2); (try clear hk); (try clear hi); (try clear ho0)))
        go_ret
        exact ⟨_, by first | rfl | (simp [errW_none, errW_some] <;> rfl) | (simp [*, errW_none, errW_some] <;> rfl), by (with_reducible repeat (first | apply Kd.R_alloc | apply Kd.R_drewN | apply Kd.R_drew)); exact Kd.R_mono HO190.out (fun _ hk => trivial), by repeat (first | (with_reducible first | exact HB.out | apply below_alloc | apply pw_below_drewN | apply below_drew1) | exact HB.out)⟩

/-! ### glossatorref3_Cyclic: function 14 -/
def glossatorref3_Cyclic.l0 : Nat → List (S44) → List (S24) → Int → Int → Option (Bool)
  | 0, _, _, _, _ => none
  | k + 1, x0, x6, x7, x8 => if x8 < x7 then (if 0 ≤ x8 then (if x8 < (x6.length : Int) then ((glossatorref3_Reachable.f k x0 ((rd_T24 x6 x8).f0) ((rd_T24 x6 x8).f1) ((rd_T24 x6 x8).f2)).bind fun t196 => ((api_QKey_23.f k t196 ((rd_T24 x6 x8).f0) ((rd_T24 x6 x8).f1) ((rd_T24 x6 x8).f2)).bind fun t199 => (if t199 = true then (some true) else (glossatorref3_Cyclic.l0 k x0 x6 x7 (wrap64 (x8 + 1)))))) else (none)) else (none)) else (some false)
def glossatorref3_Cyclic.f (k : Nat) (l0 : List (S44)) : Option (Bool) := (glossatorref3_Nodes.f k l0).bind fun t191 => (glossatorref3_Cyclic.l0 k l0 t191 (t191.length : Int) 0)
theorem glossatorref3_Cyclic.mono_l : ∀ k, (∀ y0 y1 y2 y3, LeO (glossatorref3_Cyclic.l0 k y0 y1 y2 y3) (glossatorref3_Cyclic.l0 (k + 1) y0 y1 y2 y3))
  | 0 => fun _ _ _ _ r h => by simp [glossatorref3_Cyclic.l0] at h
  | k + 1 => by
    have ih0 := glossatorref3_Cyclic.mono_l k
    · intro y0 y1 y2 y3
      unfold glossatorref3_Cyclic.l0
      repeat' first
      | (with_reducible exact ih0 _ _ _ _)
      | (with_reducible exact api_QKey_23.mono _ _ _ _ _)
      | (with_reducible exact glossatorref3_Nodes.mono _ _)
      | (with_reducible exact glossatorref3_Reachable.mono _ _ _ _ _)
      | (with_reducible exact LeO.refl _)
      | (with_reducible exact LeO.none _)
      | (with_reducible refine LeO.ite ?_ ?_)
      | (with_reducible refine LeO.bind ?_ (fun _ => ?_))
      | exact ih0 _ _ _ _
      | exact api_QKey_23.mono _ _ _ _ _
      | exact glossatorref3_Nodes.mono _ _
      | exact glossatorref3_Reachable.mono _ _ _ _ _
      | exact LeO.none _
      | refine LeO.ite ?_ ?_
      | refine LeO.bind ?_ (fun _ => ?_)
theorem glossatorref3_Cyclic.mono : ∀ a0 k, LeO (glossatorref3_Cyclic.f k a0) (glossatorref3_Cyclic.f (k + 1) a0) := by
  intro a0 k
  have ih0 := glossatorref3_Cyclic.mono_l k
  unfold glossatorref3_Cyclic.f
  repeat' first
      | (with_reducible exact ih0 _ _ _ _)
      | (with_reducible exact api_QKey_23.mono _ _ _ _ _)
      | (with_reducible exact glossatorref3_Nodes.mono _ _)
      | (with_reducible exact glossatorref3_Reachable.mono _ _ _ _ _)
      | (with_reducible exact LeO.refl _)
      | (with_reducible exact LeO.none _)
      | (with_reducible refine LeO.ite ?_ ?_)
      | (with_reducible refine LeO.bind ?_ (fun _ => ?_))
      | exact ih0 _ _ _ _
      | exact api_QKey_23.mono _ _ _ _ _
      | exact glossatorref3_Nodes.mono _ _
      | exact glossatorref3_Reachable.mono _ _ _ _ _
      | exact LeO.none _
      | refine LeO.ite ?_ ?_
      | refine LeO.bind ?_ (fun _ => ?_)
set_option maxHeartbeats 8000000 in
set_option maxRecDepth 100000 in
theorem glossatorref3_Cyclic.calls (k : Nat) (A0 : Option Addr) (c0 : Nat) (l0 : List (S44)) (r : Bool) (w : World) (hr0 : Kd.C k44 w A0 l0.length l0) (hc0 : l0.length ≤ c0) (h : glossatorref3_Cyclic.f k l0 = some r) :
    Calls Try.prog 14 #[.slice A0 l0.length c0] w fun e w' => e = .returned (.bool r) ∧ Below w.heap.size w w' := by
  have hu24 := Try.underlying24
  have HR0 := Aside0.mk hr0
  have HC0 := Aside0.mk hc0
  clear hr0 hc0
  have HB := Aside0.mk (Below.refl w.heap.size w)
  have H : ((glossatorref3_Nodes.f k l0).bind fun t191 => (glossatorref3_Cyclic.l0 k l0 t191 (t191.length : Int) 0)) = some r := h
  clear h
  replace H := Option.bind_eq_some_iff.mp H
  obtain ⟨t191, A20, H⟩ := H
  replace H : (glossatorref3_Cyclic.l0 k l0 t191 (t191.length : Int) 0) = some r := H
  have A2 := Aside0.mk A20
  clear A20
  have H' := Aside0.mk H
  clear H
  go_enter Try.func14, Try.ntmps14
  go_wp2_with (first | ((with_reducible refine gate_callee (f := 28) rfl ?_); refine goesL_ (some 6) rfl rfl Try.func28 (by kernel_rfl) rfl #[.slice A0 l0.length c0] rfl (by (try simp only [List.map_toArray, List.map_cons, List.map_nil]); first | done | rfl | (simp only [List.length_drop, List.length_take]; rfl)) ?_; (with_reducible refine (glossatorref3_Nodes.calls k _ _ l0 t191 _ ?side1 ?side2 A2.out).mono ?_); (case side1 => repeat (first | exact HR0.out | (with_reducible refine Kd.C_alloc ?_ _) | (with_reducible refine Kd.C_drewN ?_ _) | (with_reducible refine Kd.C_drew ?_))); (case side2 => exact HC0.out); rintro e w3 ⟨v192, rfl, ho0, hb⟩; refine ⟨_, rfl, ?_⟩; have n0_ := Aside0.mk (Kd.R_lower ho0 (below_size (by repeat (first | (with_reducible first | exact HB.out | apply below_alloc | apply pw_below_drewN | apply below_drew1) | exact HB.out)))); have n1_ := Aside0.mk (below_step (by repeat (first | (with_reducible first | exact HB.out | apply below_alloc | apply pw_below_drewN | apply below_drew1) | exact HB.out)) hb); clear HB; have HO193 := n0_; have HB := n1_; clear n0_ n1_; (try clear hb); (try clear hb2); (try clear hk); (try clear hi); (try clear ho0); obtain ⟨Ao4, co4, eo4⟩ := Kd.R_slice HO193.out; subst eo4))
  go_loopg [8] k (fun kq v8 w' => ∃ (x8_1 : Int), v8 = .int .i64 x8_1 ∧ Aside0 (glossatorref3_Cyclic.l0 kq l0 t191 (t191.length : Int) x8_1 = some r) ∧ Aside0 (kq ≤ k) ∧ Aside0 (Kd.R k24 24 w' w.heap.size (fun _ => True) (.slice Ao4 t191.length co4) t191) ∧ Aside0 (Below w.heap.size w w'))
  case atStart => exact ⟨(0), (by first | rfl | (simp; done) | (simp [*]; done) | (simp [isEmpty_bne]; done)), H', ⟨Nat.le_refl _⟩, ⟨by (with_reducible repeat (first | apply Kd.R_alloc | apply Kd.R_drewN | apply Kd.R_drew)); exact HO193.out⟩, ⟨by repeat (first | (with_reducible first | exact HB.out | apply below_alloc | apply pw_below_drewN | apply below_drew1) | exact HB.out)⟩⟩
  case round =>
    clear H'
    try clear c1
    try clear c2
    try clear p2
    obtain ⟨x8_1, rfl, HA, HK1, HO_6, HB⟩ := hrel
    cases gk with
    | zero => exact absurd HA.out (by simp [glossatorref3_Cyclic.l0])
    | succ k1 =>
      have H := HA.out
      clear HA
      simp only [glossatorref3_Cyclic.l0] at H
      by_cases c5 : x8_1 < (t191.length : Int)
      · rw [if_pos c5] at H
        have c5b0 : decide (x8_1 < (t191.length : Int)) = true := decide_eq_true c5
        clear c5
        by_cases c6 : 0 ≤ x8_1
        · rw [if_pos c6] at H
          have c6b0 : decide (0 ≤ x8_1) = true := decide_eq_true c6
          clear c6
          by_cases c7 : x8_1 < (t191.length : Int)
          · rw [if_pos c7] at H
            have c7b0 : decide (x8_1 < (t191.length : Int)) = true := decide_eq_true c7
            clear c7
            replace H := Option.bind_eq_some_iff.mp H
            obtain ⟨t196, A80, H⟩ := H
            replace H : ((api_QKey_23.f k1 t196 ((rd_T24 t191 x8_1).f0) ((rd_T24 t191 x8_1).f1) ((rd_T24 t191 x8_1).f2)).bind fun t199 => (if t199 = true then (some true) else (glossatorref3_Cyclic.l0 k1 l0 t191 (t191.length : Int) (wrap64 (x8_1 + 1))))) = some r := H
            have A8 := Aside0.mk A80
            clear A80
            replace H := Option.bind_eq_some_iff.mp H
            obtain ⟨t199, A90, H⟩ := H
            replace H : (if t199 = true then (some true) else (glossatorref3_Cyclic.l0 k1 l0 t191 (t191.length : Int) (wrap64 (x8_1 + 1)))) = some r := H
            have A9 := Aside0.mk A90
            clear A90
            by_cases c10 : t199 = true
            · subst c10
              have H1 : (some true) = some r := by rw [if_pos rfl] at H; exact H
              clear H
              have H := H1
              clear H1
              obtain rfl := Option.some.inj H
              have p194 : 0 ≤ (x8_1 : Int) := of_decide_eq_true (by first | (with_reducible assumption) | assumption)
              have q194 : x8_1 < (t191.length : Int) := of_decide_eq_true (by first | (with_reducible assumption) | assumption)
              obtain ⟨ad194, e194, hx194_0, hx194_1, hx194_2⟩ := at_T24 (Kd.R_reads' HO_6.out).2.2 x8_1 p194 q194
              cases e194
              replace p194 := eq_true p194
              replace q194 := eq_true q194
              try go_wp2_with (first | ((with_reducible refine gate_dst (N := 4) rfl ?_); refine box_event ?hg (N := 4) ?hd (cs := #[.int .i64 0, .int .i64 0, .int .i64 0]) (t := 24) ?hr ?_; (case hd => rfl); (case hg => rfl); (case hr => first | (go_simp; done) | (go_simp; rfl)); intro gb195 hg w11 hbox hb; have n0_ := Aside0.mk (Kd.R_below (Kd.R_elderB (by (with_reducible repeat (first | apply Kd.R_alloc | apply Kd.R_drewN | apply Kd.R_drew)); exact HO_6.out) gb195 (Nat.le_of_eq hg.symm)) hb); have n1_ := Aside0.mk (below_step (by repeat (first | (with_reducible first | exact HB.out | apply below_alloc | apply pw_below_drewN | apply below_drew1) | exact HB.out)) hb); have n2_ := Aside0.mk (hbox); have n3_ := Aside0.mk ((by rw [hg]; exact (below_size (by repeat (first | (with_reducible first | exact HB.out | apply below_alloc | apply pw_below_drewN | apply below_drew1) | exact HB.out))) : w.heap.size ≤ gb195)); have n4_ := Aside0.mk ((by rw [hg]; exact (below_size (by repeat (first | (with_reducible first | exact HB.out | apply below_alloc | apply pw_below_drewN | apply below_drew1) | exact HB.out))) : w.heap.size ≤ gb195)); clear HO_6; clear HB; have HO_6 := n0_; have HB := n1_; have BK195 := n2_; have GW195 := n3_; have GE195 := n4_; clear n0_ n1_ n2_ n3_ n4_; clear hb hbox hg; have hcz12_0 : w11.cell? ⟨gb195, 0, none⟩ = some (.int .i64 0) := (blk_cell BK195.out 0).trans rfl; have hcz12_1 : w11.cell? ⟨gb195, 1, none⟩ = some (.int .i64 0) := (blk_cell BK195.out 1).trans rfl; have hcz12_2 : w11.cell? ⟨gb195, 2, none⟩ = some (.int .i64 0) := (blk_cell BK195.out 2).trans rfl; have hfz12_0 := blk_frozen BK195.out 0; have hfz12_1 := blk_frozen BK195.out 1; have hfz12_2 := blk_frozen BK195.out 2))
              have n0_ : Aside0 (Kd.R k24 24 (((w11.setCell ⟨gb195, 0, none⟩ (.int .i64 ((rd_T24 t191 x8_1).f0))).setCell ⟨gb195, 1, none⟩ (.int .i64 ((rd_T24 t191 x8_1).f1))).setCell ⟨gb195, 2, none⟩ (.int .i64 ((rd_T24 t191 x8_1).f2))) w.heap.size (fun k_ => k_ ≠ gb195) (.slice (some ad194) t191.length co4) t191) := ⟨by (with_reducible repeat (first | apply Kd.R_alloc | apply Kd.R_drewN | apply Kd.R_drew)); exact Kd.R_mono (Kd.R_far (p := ⟨gb195, 2, none⟩) (Kd.R_far (p := ⟨gb195, 1, none⟩) (Kd.R_far (p := ⟨gb195, 0, none⟩) (Kd.R_mono HO_6.out (fun k_ hk => (⟨hk, hk.2⟩ : _ ∧ k_ ≠ gb195))) (fun _ hk => hk.2) (.int .i64 ((rd_T24 t191 x8_1).f0))) (fun _ hk => hk.2) (.int .i64 ((rd_T24 t191 x8_1).f1))) (fun _ hk => hk.2) (.int .i64 ((rd_T24 t191 x8_1).f2))) (fun _ hk => hk.1.2)⟩
              have n1_ : Aside0 ((((w11.setCell ⟨gb195, 0, none⟩ (.int .i64 ((rd_T24 t191 x8_1).f0))).setCell ⟨gb195, 1, none⟩ (.int .i64 ((rd_T24 t191 x8_1).f1))).setCell ⟨gb195, 2, none⟩ (.int .i64 ((rd_T24 t191 x8_1).f2))).heap[gb195]? = some (.cells #[.int .i64 ((rd_T24 t191 x8_1).f0), .int .i64 ((rd_T24 t191 x8_1).f1), .int .i64 ((rd_T24 t191 x8_1).f2)] 24 (0, 0))) := ⟨by (with_reducible repeat (first | refine blk_drewN ?_ _ | refine blk_drew ?_ | refine blk_alloc ?_ _)); refine blk_put (cs := #[.int .i64 ((rd_T24 t191 x8_1).f0), .int .i64 ((rd_T24 t191 x8_1).f1), .int .i64 0]) ?_ 2 _ rfl; (with_reducible repeat (first | refine blk_drewN ?_ _ | refine blk_drew ?_ | refine blk_alloc ?_ _)); refine blk_put (cs := #[.int .i64 ((rd_T24 t191 x8_1).f0), .int .i64 0, .int .i64 0]) ?_ 1 _ rfl; (with_reducible repeat (first | refine blk_drewN ?_ _ | refine blk_drew ?_ | refine blk_alloc ?_ _)); refine blk_put (cs := #[.int .i64 0, .int .i64 0, .int .i64 0]) ?_ 0 _ rfl; (with_reducible repeat (first | refine blk_drewN ?_ _ | refine blk_drew ?_ | refine blk_alloc ?_ _)); exact BK195.out⟩
              have n2_ : Aside0 (Below w.heap.size w (((w11.setCell ⟨gb195, 0, none⟩ (.int .i64 ((rd_T24 t191 x8_1).f0))).setCell ⟨gb195, 1, none⟩ (.int .i64 ((rd_T24 t191 x8_1).f1))).setCell ⟨gb195, 2, none⟩ (.int .i64 ((rd_T24 t191 x8_1).f2)))) := ⟨by repeat (first | (with_reducible first | exact HB.out | apply below_alloc | apply pw_below_drewN | apply below_drew1 | refine below_set ?_ GE195.out) | exact HB.out)⟩
              (try clear HO_6)
              (try clear BK195)
              (try clear HB)
              generalize (((w11.setCell ⟨gb195, 0, none⟩ (.int .i64 ((rd_T24 t191 x8_1).f0))).setCell ⟨gb195, 1, none⟩ (.int .i64 ((rd_T24 t191 x8_1).f1))).setCell ⟨gb195, 2, none⟩ (.int .i64 ((rd_T24 t191 x8_1).f2))) = w13 at n0_ n1_ n2_ ⊢
              have HO_6 := n0_
              have BK195 := n1_
              have HB := n2_
              clear n0_ n1_ n2_
              have n0_ := Aside0.mk (Kd.R_drew HO_6.out)
              have n1_ := Aside0.mk (blk_drew BK195.out)
              have n2_ := Aside0.mk (below_drew1 HB.out)
              clear HO_6
              clear BK195
              clear HB
              have HO_6 := n0_
              have BK195 := n1_
              have HB := n2_
              clear n0_ n1_ n2_
              refine start_ (n := 5) (S := fun w' => w'.cell? ⟨gb195, 0, none⟩ = some (.int .i64 ((rd_T24 t191 x8_1).f0)) ∧ w'.cell? ⟨gb195, 1, none⟩ = some (.int .i64 ((rd_T24 t191 x8_1).f1)) ∧ w'.cell? ⟨gb195, 2, none⟩ = some (.int .i64 ((rd_T24 t191 x8_1).f2))) (ds := []) #[false, false, false, false, false] (by kernel_rfl) rfl rfl ⟨(blk_cell BK195.out 0).trans rfl, (blk_cell BK195.out 1).trans rfl, (blk_cell BK195.out 2).trans rfl⟩ (fun hHeld => ?_)
              generalize w13.drew = w14 at HO_6 BK195 HB hHeld ⊢
              refine pure_ (i := 0) (N := some 12) (v := ?_) (a' := ?_) #[true, false, false, false, false] rfl rfl (by kernel_rfl) (fun _ _ _ h => h) (Or.inl ⟨by rfl, ?_⟩) ?_ ?_
              rotate_left
              · intro w'
                go_simp
                with_reducible rfl
              rotate_left
              · simp only [Act.put, List.setIfInBounds_toArray, List.set_cons_zero, List.set_cons_succ, i64_w, i32_w]
                rfl
              refine take_ (i := 1) (N := some 13) (v := ?_) (a' := ?_) #[true, true, false, false, false] rfl rfl (by kernel_rfl) (fun _ _ _ h => h) (Or.inl ⟨by rfl, ?_⟩) hHeld ?_ ?_
              rotate_left
              · rintro w' ⟨s0, s1, s2⟩
                go_simp
                with_reducible rfl
              rotate_left
              · simp only [Act.put, List.setIfInBounds_toArray, List.set_cons_zero, List.set_cons_succ, i64_w, i32_w]
                rfl
              refine take_ (i := 3) (N := some 15) (v := ?_) (a' := ?_) #[true, true, false, true, false] rfl rfl (by kernel_rfl) (fun _ _ _ h => h) (Or.inl ⟨by rfl, ?_⟩) hHeld ?_ ?_
              rotate_left
              · rintro w' ⟨s0, s1, s2⟩
                go_simp
                with_reducible rfl
              rotate_left
              · simp only [Act.put, List.setIfInBounds_toArray, List.set_cons_zero, List.set_cons_succ, i64_w, i32_w]
                rfl
              refine one_ (i := 2) (N := some 14) #[true, true, true, true, false] rfl rfl (by kernel_rfl) (by decide) (fun K hK => ?_)
              refine goes_ Try.func10 (by kernel_rfl) rfl #[.slice A0 l0.length c0, .agg #[.int .i64 ((rd_T24 t191 x8_1).f0), .int .i64 ((rd_T24 t191 x8_1).f1), .int .i64 ((rd_T24 t191 x8_1).f2)]] (by rfl) rfl rfl (by (try simp only [List.map_toArray, List.map_cons, List.map_nil]); first | done | rfl | (simp only [List.length_drop, List.length_take]; rfl)) ?_
              with_reducible refine (glossatorref3_Reachable.calls k1 _ _ l0 ((rd_T24 t191 x8_1).f0) ((rd_T24 t191 x8_1).f1) ((rd_T24 t191 x8_1).f2) t196 _ ?side1 ?side2 A8.out).mono ?_
              (case side1 => repeat (first | exact (Kd.C_below HR0.out HB.out) | (with_reducible refine Kd.C_alloc ?_ _) | (with_reducible refine Kd.C_drewN ?_ _) | (with_reducible refine Kd.C_drew ?_)))
              (case side2 => exact HC0.out)
              rintro e w15 ⟨v197, rfl, ho0, hb⟩
              refine ⟨_, rfl, ?_⟩
              have n0_ := Aside0.mk (Kd.R_elder' (by (with_reducible repeat (first | apply Kd.R_alloc | apply Kd.R_drewN | apply Kd.R_drew)); exact HO_6.out) (Kd.R_base ho0) hb)
              have n1_ := Aside0.mk (Kd.R_lower (Kd.R_newB (Kd.R_new' ho0 (Kd.R_lt (by (with_reducible repeat (first | apply Kd.R_alloc | apply Kd.R_drewN | apply Kd.R_drew)); exact HO_6.out))) (g := gb195) (o := .cells #[.int .i64 ((rd_T24 t191 x8_1).f0), .int .i64 ((rd_T24 t191 x8_1).f1), .int .i64 ((rd_T24 t191 x8_1).f2)] 24 (0, 0)) (by (with_reducible repeat (first | refine blk_drewN ?_ _ | refine blk_drew ?_ | refine blk_alloc ?_ _)); exact BK195.out)) (below_size (by repeat (first | (with_reducible first | exact HB.out | apply below_alloc | apply pw_below_drewN | apply below_drew1 | refine below_set ?_ GE195.out) | exact HB.out))))
              have n2_ := Aside0.mk (blk_below (g := gb195) (o := .cells #[.int .i64 ((rd_T24 t191 x8_1).f0), .int .i64 ((rd_T24 t191 x8_1).f1), .int .i64 ((rd_T24 t191 x8_1).f2)] 24 (0, 0)) (by (with_reducible repeat (first | refine blk_drewN ?_ _ | refine blk_drew ?_ | refine blk_alloc ?_ _)); exact BK195.out) hb)
              have n3_ := Aside0.mk (below_step (by repeat (first | (with_reducible first | exact HB.out | apply below_alloc | apply pw_below_drewN | apply below_drew1 | refine below_set ?_ GE195.out) | exact HB.out)) hb)
              clear HO_6
              clear BK195
              clear HB
              have HO_6 := n0_
              have HO198 := n1_
              have BK195 := n2_
              have HB := n3_
              clear n0_ n1_ n2_ n3_
              (try clear hb)
              (try clear hb2)
              (try clear hk)
              (try clear hi)
              (try clear ho0)
              obtain ⟨Ao16, co16, eo16⟩ := Kd.R_slice HO198.out
              (first | subst eo16 | (injection eo16 with f1_ f2_ f3_; have f4_ := f1_.symm; have f5_ := f3_.symm; clear f1_ f2_ f3_; subst f4_; subst f5_))
              refine hK.out _ _ ⟨(blk_cell BK195.out 0).trans rfl, (blk_cell BK195.out 1).trans rfl, (blk_cell BK195.out 2).trans rfl⟩ (fun hHeld => ?_)
              clear hK K
              refine norm_ (a' := ?_) ?_ ?_
              rotate_left
              · show Act.put _ (some 14) _ = _
                simp only [Act.put, List.setIfInBounds_toArray, List.set_cons_zero, List.set_cons_succ, i64_w, i32_w]
                rfl
              refine one_ (i := 4) (N := some 16) #[true, true, true, true, true] rfl rfl (by kernel_rfl) (by decide) (fun K hK => ?_)
              refine goes_ Try.func23 (by kernel_rfl) rfl #[.slice Ao16 t196.length co16, .agg #[.int .i64 ((rd_T24 t191 x8_1).f0), .int .i64 ((rd_T24 t191 x8_1).f1), .int .i64 ((rd_T24 t191 x8_1).f2)]] (by rfl) rfl rfl (by (try simp only [List.map_toArray, List.map_cons, List.map_nil]); first | done | rfl | (simp only [List.length_drop, List.length_take]; rfl)) ?_
              with_reducible refine (api_QKey_23.calls k1 _ _ t196 ((rd_T24 t191 x8_1).f0) ((rd_T24 t191 x8_1).f1) ((rd_T24 t191 x8_1).f2) true _ ?side1 ?side2 A9.out).mono ?_
              (case side1 => repeat (first | exact (Kd.R_reads' HO198.out).2.2 | (with_reducible refine Kd.C_alloc ?_ _) | (with_reducible refine Kd.C_drewN ?_ _) | (with_reducible refine Kd.C_drew ?_)))
              (case side2 => exact (Kd.R_reads' HO198.out).2.1)
              rintro e w17 ⟨rfl, hb⟩
              refine ⟨_, rfl, ?_⟩
              have n0_ := Aside0.mk (Kd.R_below (by (with_reducible repeat (first | apply Kd.R_alloc | apply Kd.R_drewN | apply Kd.R_drew)); exact HO_6.out) hb)
              have n1_ := Aside0.mk (Kd.R_below (by (with_reducible repeat (first | apply Kd.R_alloc | apply Kd.R_drewN | apply Kd.R_drew)); exact HO198.out) hb)
              have n2_ := Aside0.mk (blk_below (g := gb195) (o := .cells #[.int .i64 ((rd_T24 t191 x8_1).f0), .int .i64 ((rd_T24 t191 x8_1).f1), .int .i64 ((rd_T24 t191 x8_1).f2)] 24 (0, 0)) (by (with_reducible repeat (first | refine blk_drewN ?_ _ | refine blk_drew ?_ | refine blk_alloc ?_ _)); exact BK195.out) hb)
              have n3_ := Aside0.mk (below_step (by repeat (first | (with_reducible first | exact HB.out | apply below_alloc | apply pw_below_drewN | apply below_drew1 | refine below_set ?_ GE195.out) | exact HB.out)) hb)
              clear HO_6
              clear HO198
              clear BK195
              clear HB
              have HO_6 := n0_
              have HO198 := n1_
              have BK195 := n2_
              have HB := n3_
              clear n0_ n1_ n2_ n3_
              (try clear hb)
              (try clear hb2)
              (try clear hk)
              (try clear hi)
              refine hK.out _ _ ⟨(blk_cell BK195.out 0).trans rfl, (blk_cell BK195.out 1).trans rfl, (blk_cell BK195.out 2).trans rfl⟩ (fun hHeld => ?_)
              clear hK K
              refine norm_ (a' := ?_) ?_ ?_
              rotate_left
              · show Act.put _ (some 16) _ = _
                simp only [Act.put, List.setIfInBounds_toArray, List.set_cons_zero, List.set_cons_succ, i64_w, i32_w]
                rfl
              refine done_ (by kernel_rfl) ?_
              try go_wp2
              go_ret
              exact ⟨by first | rfl | (simp [errW_none, errW_some] <;> rfl) | (simp [*, errW_none, errW_some] <;> rfl), by repeat (first | (with_reducible first | exact HB.out | apply below_alloc | apply pw_below_drewN | apply below_drew1 | refine below_set ?_ GE195.out) | exact HB.out)⟩
            · replace c10 := Bool.eq_false_iff.mpr c10
              subst c10
              have H1 : (glossatorref3_Cyclic.l0 k1 l0 t191 (t191.length : Int) (wrap64 (x8_1 + 1))) = some r := by rw [if_neg (show ¬ (false = true) by decide)] at H; exact H
              clear H
              have H := H1
              clear H1
              have H' := Aside0.mk H
              clear H
              have p194 : 0 ≤ (x8_1 : Int) := of_decide_eq_true (by first | (with_reducible assumption) | assumption)
              have q194 : x8_1 < (t191.length : Int) := of_decide_eq_true (by first | (with_reducible assumption) | assumption)
              obtain ⟨ad194, e194, hx194_0, hx194_1, hx194_2⟩ := at_T24 (Kd.R_reads' HO_6.out).2.2 x8_1 p194 q194
              cases e194
              replace p194 := eq_true p194
              replace q194 := eq_true q194
              try go_wp2_with (first | ((with_reducible refine gate_dst (N := 4) rfl ?_); refine box_event ?hg (N := 4) ?hd (cs := #[.int .i64 0, .int .i64 0, .int .i64 0]) (t := 24) ?hr ?_; (case hd => rfl); (case hg => rfl); (case hr => first | (go_simp; done) | (go_simp; rfl)); intro gb195 hg w18 hbox hb; have n0_ := Aside0.mk (Kd.R_below (Kd.R_elderB (by (with_reducible repeat (first | apply Kd.R_alloc | apply Kd.R_drewN | apply Kd.R_drew)); exact HO_6.out) gb195 (Nat.le_of_eq hg.symm)) hb); have n1_ := Aside0.mk (below_step (by repeat (first | (with_reducible first | exact HB.out | apply below_alloc | apply pw_below_drewN | apply below_drew1) | exact HB.out)) hb); have n2_ := Aside0.mk (hbox); have n3_ := Aside0.mk ((by rw [hg]; exact (below_size (by repeat (first | (with_reducible first | exact HB.out | apply below_alloc | apply pw_below_drewN | apply below_drew1) | exact HB.out))) : w.heap.size ≤ gb195)); have n4_ := Aside0.mk ((by rw [hg]; exact (below_size (by repeat (first | (with_reducible first | exact HB.out | apply below_alloc | apply pw_below_drewN | apply below_drew1) | exact HB.out))) : w.heap.size ≤ gb195)); clear HO_6; clear HB; have HO_6 := n0_; have HB := n1_; have BK195 := n2_; have GW195 := n3_; have GE195 := n4_; clear n0_ n1_ n2_ n3_ n4_; clear hb hbox hg; have hcz19_0 : w18.cell? ⟨gb195, 0, none⟩ = some (.int .i64 0) := (blk_cell BK195.out 0).trans rfl; have hcz19_1 : w18.cell? ⟨gb195, 1, none⟩ = some (.int .i64 0) := (blk_cell BK195.out 1).trans rfl; have hcz19_2 : w18.cell? ⟨gb195, 2, none⟩ = some (.int .i64 0) := (blk_cell BK195.out 2).trans rfl; have hfz19_0 := blk_frozen BK195.out 0; have hfz19_1 := blk_frozen BK195.out 1; have hfz19_2 := blk_frozen BK195.out 2))
              have n0_ : Aside0 (Kd.R k24 24 (((w18.setCell ⟨gb195, 0, none⟩ (.int .i64 ((rd_T24 t191 x8_1).f0))).setCell ⟨gb195, 1, none⟩ (.int .i64 ((rd_T24 t191 x8_1).f1))).setCell ⟨gb195, 2, none⟩ (.int .i64 ((rd_T24 t191 x8_1).f2))) w.heap.size (fun k_ => k_ ≠ gb195) (.slice (some ad194) t191.length co4) t191) := ⟨by (with_reducible repeat (first | apply Kd.R_alloc | apply Kd.R_drewN | apply Kd.R_drew)); exact Kd.R_mono (Kd.R_far (p := ⟨gb195, 2, none⟩) (Kd.R_far (p := ⟨gb195, 1, none⟩) (Kd.R_far (p := ⟨gb195, 0, none⟩) (Kd.R_mono HO_6.out (fun k_ hk => (⟨hk, hk.2⟩ : _ ∧ k_ ≠ gb195))) (fun _ hk => hk.2) (.int .i64 ((rd_T24 t191 x8_1).f0))) (fun _ hk => hk.2) (.int .i64 ((rd_T24 t191 x8_1).f1))) (fun _ hk => hk.2) (.int .i64 ((rd_T24 t191 x8_1).f2))) (fun _ hk => hk.1.2)⟩
              have n1_ : Aside0 ((((w18.setCell ⟨gb195, 0, none⟩ (.int .i64 ((rd_T24 t191 x8_1).f0))).setCell ⟨gb195, 1, none⟩ (.int .i64 ((rd_T24 t191 x8_1).f1))).setCell ⟨gb195, 2, none⟩ (.int .i64 ((rd_T24 t191 x8_1).f2))).heap[gb195]? = some (.cells #[.int .i64 ((rd_T24 t191 x8_1).f0), .int .i64 ((rd_T24 t191 x8_1).f1), .int .i64 ((rd_T24 t191 x8_1).f2)] 24 (0, 0))) := ⟨by (with_reducible repeat (first | refine blk_drewN ?_ _ | refine blk_drew ?_ | refine blk_alloc ?_ _)); refine blk_put (cs := #[.int .i64 ((rd_T24 t191 x8_1).f0), .int .i64 ((rd_T24 t191 x8_1).f1), .int .i64 0]) ?_ 2 _ rfl; (with_reducible repeat (first | refine blk_drewN ?_ _ | refine blk_drew ?_ | refine blk_alloc ?_ _)); refine blk_put (cs := #[.int .i64 ((rd_T24 t191 x8_1).f0), .int .i64 0, .int .i64 0]) ?_ 1 _ rfl; (with_reducible repeat (first | refine blk_drewN ?_ _ | refine blk_drew ?_ | refine blk_alloc ?_ _)); refine blk_put (cs := #[.int .i64 0, .int .i64 0, .int .i64 0]) ?_ 0 _ rfl; (with_reducible repeat (first | refine blk_drewN ?_ _ | refine blk_drew ?_ | refine blk_alloc ?_ _)); exact BK195.out⟩
              have n2_ : Aside0 (Below w.heap.size w (((w18.setCell ⟨gb195, 0, none⟩ (.int .i64 ((rd_T24 t191 x8_1).f0))).setCell ⟨gb195, 1, none⟩ (.int .i64 ((rd_T24 t191 x8_1).f1))).setCell ⟨gb195, 2, none⟩ (.int .i64 ((rd_T24 t191 x8_1).f2)))) := ⟨by repeat (first | (with_reducible first | exact HB.out | apply below_alloc | apply pw_below_drewN | apply below_drew1 | refine below_set ?_ GE195.out) | exact HB.out)⟩
              (try clear HO_6)
              (try clear BK195)
              (try clear HB)
              generalize (((w18.setCell ⟨gb195, 0, none⟩ (.int .i64 ((rd_T24 t191 x8_1).f0))).setCell ⟨gb195, 1, none⟩ (.int .i64 ((rd_T24 t191 x8_1).f1))).setCell ⟨gb195, 2, none⟩ (.int .i64 ((rd_T24 t191 x8_1).f2))) = w20 at n0_ n1_ n2_ ⊢
              have HO_6 := n0_
              have BK195 := n1_
              have HB := n2_
              clear n0_ n1_ n2_
              have n0_ := Aside0.mk (Kd.R_drew HO_6.out)
              have n1_ := Aside0.mk (blk_drew BK195.out)
              have n2_ := Aside0.mk (below_drew1 HB.out)
              clear HO_6
              clear BK195
              clear HB
              have HO_6 := n0_
              have BK195 := n1_
              have HB := n2_
              clear n0_ n1_ n2_
              refine start_ (n := 5) (S := fun w' => w'.cell? ⟨gb195, 0, none⟩ = some (.int .i64 ((rd_T24 t191 x8_1).f0)) ∧ w'.cell? ⟨gb195, 1, none⟩ = some (.int .i64 ((rd_T24 t191 x8_1).f1)) ∧ w'.cell? ⟨gb195, 2, none⟩ = some (.int .i64 ((rd_T24 t191 x8_1).f2))) (ds := []) #[false, false, false, false, false] (by kernel_rfl) rfl rfl ⟨(blk_cell BK195.out 0).trans rfl, (blk_cell BK195.out 1).trans rfl, (blk_cell BK195.out 2).trans rfl⟩ (fun hHeld => ?_)
              generalize w20.drew = w21 at HO_6 BK195 HB hHeld ⊢
              refine pure_ (i := 0) (N := some 12) (v := ?_) (a' := ?_) #[true, false, false, false, false] rfl rfl (by kernel_rfl) (fun _ _ _ h => h) (Or.inl ⟨by rfl, ?_⟩) ?_ ?_
              rotate_left
              · intro w'
                go_simp
                with_reducible rfl
              rotate_left
              · simp only [Act.put, List.setIfInBounds_toArray, List.set_cons_zero, List.set_cons_succ, i64_w, i32_w]
                rfl
              refine take_ (i := 1) (N := some 13) (v := ?_) (a' := ?_) #[true, true, false, false, false] rfl rfl (by kernel_rfl) (fun _ _ _ h => h) (Or.inl ⟨by rfl, ?_⟩) hHeld ?_ ?_
              rotate_left
              · rintro w' ⟨s0, s1, s2⟩
                go_simp
                with_reducible rfl
              rotate_left
              · simp only [Act.put, List.setIfInBounds_toArray, List.set_cons_zero, List.set_cons_succ, i64_w, i32_w]
                rfl
              refine take_ (i := 3) (N := some 15) (v := ?_) (a' := ?_) #[true, true, false, true, false] rfl rfl (by kernel_rfl) (fun _ _ _ h => h) (Or.inl ⟨by rfl, ?_⟩) hHeld ?_ ?_
              rotate_left
              · rintro w' ⟨s0, s1, s2⟩
                go_simp
                with_reducible rfl
              rotate_left
              · simp only [Act.put, List.setIfInBounds_toArray, List.set_cons_zero, List.set_cons_succ, i64_w, i32_w]
                rfl
              refine one_ (i := 2) (N := some 14) #[true, true, true, true, false] rfl rfl (by kernel_rfl) (by decide) (fun K hK => ?_)
              refine goes_ Try.func10 (by kernel_rfl) rfl #[.slice A0 l0.length c0, .agg #[.int .i64 ((rd_T24 t191 x8_1).f0), .int .i64 ((rd_T24 t191 x8_1).f1), .int .i64 ((rd_T24 t191 x8_1).f2)]] (by rfl) rfl rfl (by (try simp only [List.map_toArray, List.map_cons, List.map_nil]); first | done | rfl | (simp only [List.length_drop, List.length_take]; rfl)) ?_
              with_reducible refine (glossatorref3_Reachable.calls k1 _ _ l0 ((rd_T24 t191 x8_1).f0) ((rd_T24 t191 x8_1).f1) ((rd_T24 t191 x8_1).f2) t196 _ ?side1 ?side2 A8.out).mono ?_
              (case side1 => repeat (first | exact (Kd.C_below HR0.out HB.out) | (with_reducible refine Kd.C_alloc ?_ _) | (with_reducible refine Kd.C_drewN ?_ _) | (with_reducible refine Kd.C_drew ?_)))
              (case side2 => exact HC0.out)
              rintro e w22 ⟨v197, rfl, ho0, hb⟩
              refine ⟨_, rfl, ?_⟩
              have n0_ := Aside0.mk (Kd.R_elder' (by (with_reducible repeat (first | apply Kd.R_alloc | apply Kd.R_drewN | apply Kd.R_drew)); exact HO_6.out) (Kd.R_base ho0) hb)
              have n1_ := Aside0.mk (Kd.R_lower (Kd.R_newB (Kd.R_new' ho0 (Kd.R_lt (by (with_reducible repeat (first | apply Kd.R_alloc | apply Kd.R_drewN | apply Kd.R_drew)); exact HO_6.out))) (g := gb195) (o := .cells #[.int .i64 ((rd_T24 t191 x8_1).f0), .int .i64 ((rd_T24 t191 x8_1).f1), .int .i64 ((rd_T24 t191 x8_1).f2)] 24 (0, 0)) (by (with_reducible repeat (first | refine blk_drewN ?_ _ | refine blk_drew ?_ | refine blk_alloc ?_ _)); exact BK195.out)) (below_size (by repeat (first | (with_reducible first | exact HB.out | apply below_alloc | apply pw_below_drewN | apply below_drew1 | refine below_set ?_ GE195.out) | exact HB.out))))
              have n2_ := Aside0.mk (blk_below (g := gb195) (o := .cells #[.int .i64 ((rd_T24 t191 x8_1).f0), .int .i64 ((rd_T24 t191 x8_1).f1), .int .i64 ((rd_T24 t191 x8_1).f2)] 24 (0, 0)) (by (with_reducible repeat (first | refine blk_drewN ?_ _ | refine blk_drew ?_ | refine blk_alloc ?_ _)); exact BK195.out) hb)
              have n3_ := Aside0.mk (below_step (by repeat (first | (with_reducible first | exact HB.out | apply below_alloc | apply pw_below_drewN | apply below_drew1 | refine below_set ?_ GE195.out) | exact HB.out)) hb)
              clear HO_6
              clear BK195
              clear HB
              have HO_6 := n0_
              have HO198 := n1_
              have BK195 := n2_
              have HB := n3_
              clear n0_ n1_ n2_ n3_
              (try clear hb)
              (try clear hb2)
              (try clear hk)
              (try clear hi)
              (try clear ho0)
              obtain ⟨Ao23, co23, eo23⟩ := Kd.R_slice HO198.out
              (first | subst eo23 | (injection eo23 with f1_ f2_ f3_; have f4_ := f1_.symm; have f5_ := f3_.symm; clear f1_ f2_ f3_; subst f4_; subst f5_))
              refine hK.out _ _ ⟨(blk_cell BK195.out 0).trans rfl, (blk_cell BK195.out 1).trans rfl, (blk_cell BK195.out 2).trans rfl⟩ (fun hHeld => ?_)
              clear hK K
              refine norm_ (a' := ?_) ?_ ?_
              rotate_left
              · show Act.put _ (some 14) _ = _
                simp only [Act.put, List.setIfInBounds_toArray, List.set_cons_zero, List.set_cons_succ, i64_w, i32_w]
                rfl
              refine one_ (i := 4) (N := some 16) #[true, true, true, true, true] rfl rfl (by kernel_rfl) (by decide) (fun K hK => ?_)
              refine goes_ Try.func23 (by kernel_rfl) rfl #[.slice Ao23 t196.length co23, .agg #[.int .i64 ((rd_T24 t191 x8_1).f0), .int .i64 ((rd_T24 t191 x8_1).f1), .int .i64 ((rd_T24 t191 x8_1).f2)]] (by rfl) rfl rfl (by (try simp only [List.map_toArray, List.map_cons, List.map_nil]); first | done | rfl | (simp only [List.length_drop, List.length_take]; rfl)) ?_
              with_reducible refine (api_QKey_23.calls k1 _ _ t196 ((rd_T24 t191 x8_1).f0) ((rd_T24 t191 x8_1).f1) ((rd_T24 t191 x8_1).f2) false _ ?side1 ?side2 A9.out).mono ?_
              (case side1 => repeat (first | exact (Kd.R_reads' HO198.out).2.2 | (with_reducible refine Kd.C_alloc ?_ _) | (with_reducible refine Kd.C_drewN ?_ _) | (with_reducible refine Kd.C_drew ?_)))
              (case side2 => exact (Kd.R_reads' HO198.out).2.1)
              rintro e w24 ⟨rfl, hb⟩
              refine ⟨_, rfl, ?_⟩
              have n0_ := Aside0.mk (Kd.R_below (by (with_reducible repeat (first | apply Kd.R_alloc | apply Kd.R_drewN | apply Kd.R_drew)); exact HO_6.out) hb)
              have n1_ := Aside0.mk (Kd.R_below (by (with_reducible repeat (first | apply Kd.R_alloc | apply Kd.R_drewN | apply Kd.R_drew)); exact HO198.out) hb)
              have n2_ := Aside0.mk (blk_below (g := gb195) (o := .cells #[.int .i64 ((rd_T24 t191 x8_1).f0), .int .i64 ((rd_T24 t191 x8_1).f1), .int .i64 ((rd_T24 t191 x8_1).f2)] 24 (0, 0)) (by (with_reducible repeat (first | refine blk_drewN ?_ _ | refine blk_drew ?_ | refine blk_alloc ?_ _)); exact BK195.out) hb)
              have n3_ := Aside0.mk (below_step (by repeat (first | (with_reducible first | exact HB.out | apply below_alloc | apply pw_below_drewN | apply below_drew1 | refine below_set ?_ GE195.out) | exact HB.out)) hb)
              clear HO_6
              clear HO198
              clear BK195
              clear HB
              have HO_6 := n0_
              have HO198 := n1_
              have BK195 := n2_
              have HB := n3_
              clear n0_ n1_ n2_ n3_
              (try clear hb)
              (try clear hb2)
              (try clear hk)
              (try clear hi)
              refine hK.out _ _ ⟨(blk_cell BK195.out 0).trans rfl, (blk_cell BK195.out 1).trans rfl, (blk_cell BK195.out 2).trans rfl⟩ (fun hHeld => ?_)
              clear hK K
              refine norm_ (a' := ?_) ?_ ?_
              rotate_left
              · show Act.put _ (some 16) _ = _
                simp only [Act.put, List.setIfInBounds_toArray, List.set_cons_zero, List.set_cons_succ, i64_w, i32_w]
                rfl
              refine done_ (by kernel_rfl) ?_
              try go_wp2
              go_roundg k1
              case measure => have := HK1.out; omega
              case rel => exact ⟨(wrap64 (x8_1 + 1)), (by first | rfl | (simp; done) | (simp [*]; done) | (simp [isEmpty_bne]; done)), H', ⟨by have := HK1.out; omega⟩, ⟨by (with_reducible repeat (first | apply Kd.R_alloc | apply Kd.R_drewN | apply Kd.R_drew)); exact Kd.R_mono HO_6.out (fun _ hk => trivial)⟩, ⟨by repeat (first | (with_reducible first | exact HB.out | apply below_alloc | apply pw_below_drewN | apply below_drew1 | refine below_set ?_ GE195.out) | exact HB.out)⟩⟩
          · rw [if_neg c7] at H
            exact absurd H (by simp)
        · rw [if_neg c6] at H
          exact absurd H (by simp)
      · rw [if_neg c5] at H
        have c5b0 : decide (x8_1 < (t191.length : Int)) = false := decide_eq_false c5
        clear c5
        obtain rfl := Option.some.inj H
        go_wp2
        go_ret
        exact ⟨by first | rfl | (simp [errW_none, errW_some] <;> rfl) | (simp [*, errW_none, errW_some] <;> rfl), by repeat (first | (with_reducible first | exact HB.out | apply below_alloc | apply pw_below_drewN | apply below_drew1) | exact HB.out)⟩

-- NOT PRINTED: function 25 (api_QKey_25)

end Go.Proofs.Ytofonbfpjfabbaa.QDepgraphReduction
