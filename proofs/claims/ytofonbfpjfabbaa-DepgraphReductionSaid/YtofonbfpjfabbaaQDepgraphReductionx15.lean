-- Written by gen.py (this repo's wip/), which runs the kit's print.py with more arms. Lean checks it.
import Derived.Test.YtofonbfpjfabbaaQDepgraphReductionx0
import Derived.Test.YtofonbfpjfabbaaQDepgraphReductionx1
import Derived.Test.YtofonbfpjfabbaaQDepgraphReductionx8
import Derived.Test.YtofonbfpjfabbaaQDepgraphReductionx10
import Derived.Test.YtofonbfpjfabbaaQDepgraphReductionx14
namespace Go.Proofs.Ytofonbfpjfabbaa.QDepgraphReduction
open Go.RowKit Go.Proofs.YtofonbfpjfabbaaW.PrintWords Go.Proofs.YtofonbfpjfabbaaW.PrintLast Go.Proofs.YtofonbfpjfabbaaW.PrintMore
attribute [local go_sem] max2_int min2_int max_two min_two max_three min_three max_four min_four   -- for this text's walks alone
set_option linter.unusedVariables false
set_option linter.unusedSimpArgs false

private theorem isEmpty_bne {α : Type} [BEq α] (l : List α) : (l != []) = !l.isEmpty := by cases l <;> rfl

attribute [local go_sem high] eqA24
/-! ### glossatorref3_Reduction: function 20 -/
mutual
def glossatorref3_Reduction.l0 : Nat → List (S44) → List (S44) → List (S44) → Int → Int → Option ((List (S44)))
  | 0, _, _, _, _, _ => none
  | k + 1, x0, x3, x9, x10, x11 => if x11 < x10 then (if 0 ≤ x11 then (if x11 < (x9.length : Int) then (glossatorref3_Reduction.l1 k x0 x3 false x9 x10 x11 x0 (x0.length : Int) 0 ((rd_T44 x9 x11).f0.f0) ((rd_T44 x9 x11).f0.f1) ((rd_T44 x9 x11).f0.f2) ((rd_T44 x9 x11).f1.f0) ((rd_T44 x9 x11).f1.f1) ((rd_T44 x9 x11).f1.f2)) else (none)) else (none)) else (some x3)
def glossatorref3_Reduction.l1 : Nat → List (S44) → List (S44) → Bool → List (S44) → Int → Int → List (S44) → Int → Int → Int → Int → Int → Int → Int → Int → Option ((List (S44)))
  | 0, _, _, _, _, _, _, _, _, _, _, _, _, _, _, _ => none
  | k + 1, x0, x3, x6, x9, x10, x11, x15, x16, x17, x211000, x211001, x211002, x211003, x211004, x211005 => if x17 < x16 then (if 0 ≤ x17 then (if x17 < (x15.length : Int) then (if x6 = true then (glossatorref3_Reduction.l1 k x0 x3 true x9 x10 x11 x15 x16 (wrap64 (x17 + 1)) x211000 x211001 x211002 x211003 x211004 x211005) else (if (((rd_T44 x15 x17).f0.f0) == x211000 && (((rd_T44 x15 x17).f0.f1) == x211001 && (((rd_T44 x15 x17).f0.f2) == x211002))) = true then (if (!(((rd_T44 x15 x17).f1.f0) == x211003) || (!(((rd_T44 x15 x17).f1.f1) == x211004) || (!(((rd_T44 x15 x17).f1.f2) == x211005)))) = true then ((glossatorref3_Reachable.f k x0 ((rd_T44 x15 x17).f1.f0) ((rd_T44 x15 x17).f1.f1) ((rd_T44 x15 x17).f1.f2)).bind fun t213 => ((api_QKey_23.f k t213 x211003 x211004 x211005).bind fun t216 => (glossatorref3_Reduction.l1 k x0 x3 t216 x9 x10 x11 x15 x16 (wrap64 (x17 + 1)) x211000 x211001 x211002 x211003 x211004 x211005))) else (glossatorref3_Reduction.l1 k x0 x3 false x9 x10 x11 x15 x16 (wrap64 (x17 + 1)) x211000 x211001 x211002 x211003 x211004 x211005)) else (glossatorref3_Reduction.l1 k x0 x3 false x9 x10 x11 x15 x16 (wrap64 (x17 + 1)) x211000 x211001 x211002 x211003 x211004 x211005))) else (none)) else (none)) else (if x6 = true then (glossatorref3_Reduction.l0 k x0 x3 x9 x10 (wrap64 (x11 + 1))) else ((api_QEdge_35.f k x3 x211000 x211001 x211002 x211003 x211004 x211005).bind fun t217 => (if t217 = true then (glossatorref3_Reduction.l0 k x0 x3 x9 x10 (wrap64 (x11 + 1))) else (if x3.length < 2932031007402 then (glossatorref3_Reduction.l0 k x0 (x3 ++ [(⟨(⟨x211000, x211001, x211002⟩ : S24), (⟨x211003, x211004, x211005⟩ : S24)⟩ : S44)]) x9 x10 (wrap64 (x11 + 1))) else (none)))))
end
def glossatorref3_Reduction.f (k : Nat) (l0 : List (S44)) : Option ((List (S44))) := glossatorref3_Reduction.l0 k l0 ([] : List (S44)) l0 (l0.length : Int) 0
theorem glossatorref3_Reduction.mono_l : ∀ k, (∀ y0 y1 y2 y3 y4, LeO (glossatorref3_Reduction.l0 k y0 y1 y2 y3 y4) (glossatorref3_Reduction.l0 (k + 1) y0 y1 y2 y3 y4)) ∧ (∀ y0 y1 y2 y3 y4 y5 y6 y7 y8 y9 y10 y11 y12 y13 y14, LeO (glossatorref3_Reduction.l1 k y0 y1 y2 y3 y4 y5 y6 y7 y8 y9 y10 y11 y12 y13 y14) (glossatorref3_Reduction.l1 (k + 1) y0 y1 y2 y3 y4 y5 y6 y7 y8 y9 y10 y11 y12 y13 y14))
  | 0 => ⟨fun _ _ _ _ _ r h => by simp [glossatorref3_Reduction.l0] at h, fun _ _ _ _ _ _ _ _ _ _ _ _ _ _ _ r h => by simp [glossatorref3_Reduction.l1] at h⟩
  | k + 1 => by
    obtain ⟨ih0, ih1⟩ := glossatorref3_Reduction.mono_l k
    refine ⟨?_, ?_⟩
    · intro y0 y1 y2 y3 y4
      unfold glossatorref3_Reduction.l0
      repeat' first
      | (with_reducible exact ih0 _ _ _ _ _)
      | (with_reducible exact ih1 _ _ _ _ _ _ _ _ _ _ _ _ _ _ _)
      | (with_reducible exact api_QEdge_35.mono _ _ _ _ _ _ _ _)
      | (with_reducible exact api_QKey_23.mono _ _ _ _ _)
      | (with_reducible exact glossatorref3_Reachable.mono _ _ _ _ _)
      | (with_reducible exact LeO.refl _)
      | (with_reducible exact LeO.none _)
      | (with_reducible refine LeO.ite ?_ ?_)
      | (with_reducible refine LeO.bind ?_ (fun _ => ?_))
      | exact ih0 _ _ _ _ _
      | exact ih1 _ _ _ _ _ _ _ _ _ _ _ _ _ _ _
      | exact api_QEdge_35.mono _ _ _ _ _ _ _ _
      | exact api_QKey_23.mono _ _ _ _ _
      | exact glossatorref3_Reachable.mono _ _ _ _ _
      | exact LeO.none _
      | refine LeO.ite ?_ ?_
      | refine LeO.bind ?_ (fun _ => ?_)
    · intro y0 y1 y2 y3 y4 y5 y6 y7 y8 y9 y10 y11 y12 y13 y14
      unfold glossatorref3_Reduction.l1
      repeat' first
      | (with_reducible exact ih0 _ _ _ _ _)
      | (with_reducible exact ih1 _ _ _ _ _ _ _ _ _ _ _ _ _ _ _)
      | (with_reducible exact api_QEdge_35.mono _ _ _ _ _ _ _ _)
      | (with_reducible exact api_QKey_23.mono _ _ _ _ _)
      | (with_reducible exact glossatorref3_Reachable.mono _ _ _ _ _)
      | (with_reducible exact LeO.refl _)
      | (with_reducible exact LeO.none _)
      | (with_reducible refine LeO.ite ?_ ?_)
      | (with_reducible refine LeO.bind ?_ (fun _ => ?_))
      | exact ih0 _ _ _ _ _
      | exact ih1 _ _ _ _ _ _ _ _ _ _ _ _ _ _ _
      | exact api_QEdge_35.mono _ _ _ _ _ _ _ _
      | exact api_QKey_23.mono _ _ _ _ _
      | exact glossatorref3_Reachable.mono _ _ _ _ _
      | exact LeO.none _
      | refine LeO.ite ?_ ?_
      | refine LeO.bind ?_ (fun _ => ?_)
theorem glossatorref3_Reduction.mono : ∀ a0 k, LeO (glossatorref3_Reduction.f k a0) (glossatorref3_Reduction.f (k + 1) a0) := by
  intro a0 k
  obtain ⟨ih0, ih1⟩ := glossatorref3_Reduction.mono_l k
  unfold glossatorref3_Reduction.f
  repeat' first
      | (with_reducible exact ih0 _ _ _ _ _)
      | (with_reducible exact ih1 _ _ _ _ _ _ _ _ _ _ _ _ _ _ _)
      | (with_reducible exact api_QEdge_35.mono _ _ _ _ _ _ _ _)
      | (with_reducible exact api_QKey_23.mono _ _ _ _ _)
      | (with_reducible exact glossatorref3_Reachable.mono _ _ _ _ _)
      | (with_reducible exact LeO.refl _)
      | (with_reducible exact LeO.none _)
      | (with_reducible refine LeO.ite ?_ ?_)
      | (with_reducible refine LeO.bind ?_ (fun _ => ?_))
      | exact ih0 _ _ _ _ _
      | exact ih1 _ _ _ _ _ _ _ _ _ _ _ _ _ _ _
      | exact api_QEdge_35.mono _ _ _ _ _ _ _ _
      | exact api_QKey_23.mono _ _ _ _ _
      | exact glossatorref3_Reachable.mono _ _ _ _ _
      | exact LeO.none _
      | refine LeO.ite ?_ ?_
      | refine LeO.bind ?_ (fun _ => ?_)
def glossatorref3_Reduction.T9 : Bool × List (List Nat × List Nat) := (true, [([], []), ([0], [0]), ([1], [1]), ([2, 1], [1, 2]), ([1], [1]), ([4, 1], [1, 4]), ([3, 5, 1], [1, 3, 5]), ([6, 1, 1], [1, 6]), ([7], [7]), ([8, 7], [7, 8]), ([7], [7]), ([10, 7], [7, 10]), ([9, 11, 7], [7, 9, 11]), ([7, 12, 1], [1, 7, 12]), ([13, 7, 1], [1, 13]), ([14], [14]), ([14], [14]), ([16, 14], [14, 16]), ([15, 17, 14, 14], [14, 15, 17]), ([14], [14]), ([19, 14], [14, 19]), ([18, 20, 18, 14], [14, 18, 20]), ([14, 21, 1], [1, 14, 21]), ([1, 22], [1, 22]), ([23, 21, 0, 1, 2, 3, 4, 5, 6, 7, 8, 9, 10, 11, 12, 13, 14, 15, 16, 17, 18, 19, 20, 21, 22, 23], [0, 23])])
def glossatorref3_Reduction.B9 : List Nat := [0, 1, 3, 7, 3, 19, 63, 127, 255, 511, 255, 1279, 4095, 8191, 16383, 32767, 32767, 98303, 262143, 32767, 557055, 2097151, 4194303, 8388607, 16777215]
theorem glossatorref3_Reduction.tab9 : rtab .any (opsOf Try.f20 9) = glossatorref3_Reduction.T9 := by kernel_rfl
theorem glossatorref3_Reduction.bits9 : waitsOk glossatorref3_Reduction.T9.2 glossatorref3_Reduction.B9 = true := by kernel_rfl
set_option maxHeartbeats 8000000 in
set_option maxRecDepth 100000 in
theorem glossatorref3_Reduction.calls (k : Nat) (A0 : Option Addr) (c0 : Nat) (l0 : List (S44)) (r : List (S44)) (w : World) (hr0 : Kd.C k44 w A0 l0.length l0) (hc0 : l0.length ≤ c0) (h : glossatorref3_Reduction.f k l0 = some r) :
    Calls Try.prog 20 #[.slice A0 l0.length c0] w fun e w' => ∃ v0_ : Value, e = .returned (v0_) ∧ Kd.R k44 44 w' w.heap.size (fun _ => True) v0_ r ∧ Below w.heap.size w w' := by
  have hu44 := Try.underlying44
  have hu24 := Try.underlying24
  have HR0 := Aside0.mk hr0
  have HC0 := Aside0.mk hc0
  clear hr0 hc0
  have HB := Aside0.mk (Below.refl w.heap.size w)
  have H : (glossatorref3_Reduction.l0 k l0 ([] : List (S44)) l0 (l0.length : Int) 0) = some r := h
  clear h
  have H' := Aside0.mk H
  clear H
  go_enter Try.func20, Try.ntmps20
  go_wp2
  go_loopg [3, 11] k (fun kq v3 v11 w' => ∃ (x3_1 : List (S44)) (x11_1 : Int), v11 = .int .i64 x11_1 ∧ Aside0 (glossatorref3_Reduction.l0 kq l0 x3_1 l0 (l0.length : Int) x11_1 = some r) ∧ Aside0 (kq ≤ k) ∧ Aside0 (Kd.R k44 44 w' w.heap.size (fun _ => True) v3 x3_1) ∧ Aside0 (Below w.heap.size w w'))
  case atStart => exact ⟨(([] : List (S44))), (0), (by first | rfl | (simp; done) | (simp [*]; done) | (simp [isEmpty_bne]; done)), H', ⟨Nat.le_refl _⟩, ⟨by first | exact Kd.R_nil _ _ _ _ _ | exact Kd.N_nil _ _ _ _ _ | exact Kd.V_nil _ _ _ _ _ | exact Kd.Q_nil _ _ _ _ _ | exact Kd.S_nil _ _ _ _ _⟩, ⟨by repeat (first | (with_reducible first | exact HB.out | apply below_alloc | apply pw_below_drewN | apply below_drew1) | exact HB.out)⟩⟩
  case round =>
    clear H'
    obtain ⟨x3_1, x11_1, rfl, HA, HK1, HO_3, HB⟩ := hrel
    cases gk with
    | zero => exact absurd HA.out (by simp [glossatorref3_Reduction.l0])
    | succ k1 =>
      have H := HA.out
      clear HA
      simp only [glossatorref3_Reduction.l0] at H
      by_cases c2 : x11_1 < (l0.length : Int)
      · rw [if_pos c2] at H
        have c2b0 : decide (x11_1 < (l0.length : Int)) = true := decide_eq_true c2
        clear c2
        by_cases c3 : 0 ≤ x11_1
        · rw [if_pos c3] at H
          have c3b0 : decide (0 ≤ x11_1) = true := decide_eq_true c3
          clear c3
          by_cases c4 : x11_1 < (l0.length : Int)
          · rw [if_pos c4] at H
            have c4b0 : decide (x11_1 < (l0.length : Int)) = true := decide_eq_true c4
            clear c4
            have H' := Aside0.mk H
            clear H
            have p209 : 0 ≤ (x11_1 : Int) := of_decide_eq_true (by first | (with_reducible assumption) | assumption)
            have q209 : x11_1 < (l0.length : Int) := of_decide_eq_true (by first | (with_reducible assumption) | assumption)
            obtain ⟨ad209, e209, hx209_0, hx209_1, hx209_2, hx209_3, hx209_4, hx209_5⟩ := at_T44 HR0.out x11_1 p209 q209
            cases e209
            replace hx209_0 := (HB.out.cell (World.block_lt_of_cell? w _ hx209_0)).trans hx209_0
            replace hx209_1 := (HB.out.cell (World.block_lt_of_cell? w _ hx209_1)).trans hx209_1
            replace hx209_2 := (HB.out.cell (World.block_lt_of_cell? w _ hx209_2)).trans hx209_2
            replace hx209_3 := (HB.out.cell (World.block_lt_of_cell? w _ hx209_3)).trans hx209_3
            replace hx209_4 := (HB.out.cell (World.block_lt_of_cell? w _ hx209_4)).trans hx209_4
            replace hx209_5 := (HB.out.cell (World.block_lt_of_cell? w _ hx209_5)).trans hx209_5
            replace p209 := eq_true p209
            replace q209 := eq_true q209
            go_wp2_with (first | ((with_reducible refine gate_dst (N := 5) rfl ?_); refine box_event ?hg (N := 5) ?hd (cs := #[.int .i64 0, .int .i64 0, .int .i64 0, .int .i64 0, .int .i64 0, .int .i64 0]) (t := 44) ?hr ?_; (case hd => rfl); (case hg => rfl); (case hr => first | (go_simp; done) | (go_simp; rfl)); intro gb210 hg w5 hbox hb; have n0_ := Aside0.mk (Kd.R_below (Kd.R_elderB (by (with_reducible repeat (first | apply Kd.R_alloc | apply Kd.R_drewN | apply Kd.R_drew)); exact HO_3.out) gb210 (Nat.le_of_eq hg.symm)) hb); have n1_ := Aside0.mk (below_step (by repeat (first | (with_reducible first | exact HB.out | apply below_alloc | apply pw_below_drewN | apply below_drew1) | exact HB.out)) hb); have n2_ := Aside0.mk (hbox); have n3_ := Aside0.mk ((by rw [hg]; exact (below_size (by repeat (first | (with_reducible first | exact HB.out | apply below_alloc | apply pw_below_drewN | apply below_drew1) | exact HB.out))) : w.heap.size ≤ gb210)); have n4_ := Aside0.mk ((by rw [hg]; exact (below_size (by repeat (first | (with_reducible first | exact HB.out | apply below_alloc | apply pw_below_drewN | apply below_drew1) | exact HB.out))) : w.heap.size ≤ gb210)); clear HO_3; clear HB; have HO_3 := n0_; have HB := n1_; have BK210 := n2_; have GW210 := n3_; have GE210 := n4_; clear n0_ n1_ n2_ n3_ n4_; clear hb hbox hg; have hcz6_0 : w5.cell? ⟨gb210, 0, none⟩ = some (.int .i64 0) := (blk_cell BK210.out 0).trans rfl; have hcz6_1 : w5.cell? ⟨gb210, 1, none⟩ = some (.int .i64 0) := (blk_cell BK210.out 1).trans rfl; have hcz6_2 : w5.cell? ⟨gb210, 2, none⟩ = some (.int .i64 0) := (blk_cell BK210.out 2).trans rfl; have hcz6_3 : w5.cell? ⟨gb210, 3, none⟩ = some (.int .i64 0) := (blk_cell BK210.out 3).trans rfl; have hcz6_4 : w5.cell? ⟨gb210, 4, none⟩ = some (.int .i64 0) := (blk_cell BK210.out 4).trans rfl; have hcz6_5 : w5.cell? ⟨gb210, 5, none⟩ = some (.int .i64 0) := (blk_cell BK210.out 5).trans rfl; have hfz6_0 := blk_frozen BK210.out 0; have hfz6_1 := blk_frozen BK210.out 1; have hfz6_2 := blk_frozen BK210.out 2; have hfz6_3 := blk_frozen BK210.out 3; have hfz6_4 := blk_frozen BK210.out 4; have hfz6_5 := blk_frozen BK210.out 5))
            go_loopg [6, 17] k1 (fun kq v6 v17 w' => ∃ (x6_2 : Bool) (x17_2 : Int), v6 = .bool x6_2 ∧ v17 = .int .i64 x17_2 ∧ Aside0 (glossatorref3_Reduction.l1 kq l0 x3_1 x6_2 l0 (l0.length : Int) x11_1 l0 (l0.length : Int) x17_2 ((rd_T44 l0 x11_1).f0.f0) ((rd_T44 l0 x11_1).f0.f1) ((rd_T44 l0 x11_1).f0.f2) ((rd_T44 l0 x11_1).f1.f0) ((rd_T44 l0 x11_1).f1.f1) ((rd_T44 l0 x11_1).f1.f2) = some r) ∧ Aside0 (kq ≤ k1) ∧ Aside0 (Kd.R k44 44 w' w.heap.size (fun k_ => k_ ≠ gb210) u3 x3_1) ∧ Aside0 (w'.heap[gb210]? = some (.cells #[.int .i64 ((rd_T44 l0 x11_1).f0.f0), .int .i64 ((rd_T44 l0 x11_1).f0.f1), .int .i64 ((rd_T44 l0 x11_1).f0.f2), .int .i64 ((rd_T44 l0 x11_1).f1.f0), .int .i64 ((rd_T44 l0 x11_1).f1.f1), .int .i64 ((rd_T44 l0 x11_1).f1.f2)] 44 (0, 0))) ∧ Aside0 (Below w.heap.size w w'))
            case atStart => exact ⟨(false), (0), (by first | rfl | (simp; done) | (simp [*]; done) | (simp [isEmpty_bne]; done)), (by first | rfl | (simp; done) | (simp [*]; done) | (simp [isEmpty_bne]; done)), H', ⟨Nat.le_refl _⟩, ⟨by (with_reducible repeat (first | apply Kd.R_alloc | apply Kd.R_drewN | apply Kd.R_drew)); exact Kd.R_mono (Kd.R_far (p := ⟨gb210, 5, none⟩) (Kd.R_far (p := ⟨gb210, 4, none⟩) (Kd.R_far (p := ⟨gb210, 3, none⟩) (Kd.R_far (p := ⟨gb210, 2, none⟩) (Kd.R_far (p := ⟨gb210, 1, none⟩) (Kd.R_far (p := ⟨gb210, 0, none⟩) (Kd.R_mono HO_3.out (fun k_ hk => (⟨hk, hk.2⟩ : _ ∧ k_ ≠ gb210))) (fun _ hk => hk.2) (.int .i64 ((rd_T44 l0 x11_1).f0.f0))) (fun _ hk => hk.2) (.int .i64 ((rd_T44 l0 x11_1).f0.f1))) (fun _ hk => hk.2) (.int .i64 ((rd_T44 l0 x11_1).f0.f2))) (fun _ hk => hk.2) (.int .i64 ((rd_T44 l0 x11_1).f1.f0))) (fun _ hk => hk.2) (.int .i64 ((rd_T44 l0 x11_1).f1.f1))) (fun _ hk => hk.2) (.int .i64 ((rd_T44 l0 x11_1).f1.f2))) (fun _ hk => hk.1.2)⟩, ⟨by (with_reducible repeat (first | refine blk_drewN ?_ _ | refine blk_drew ?_ | refine blk_alloc ?_ _)); refine blk_put (cs := #[.int .i64 ((rd_T44 l0 x11_1).f0.f0), .int .i64 ((rd_T44 l0 x11_1).f0.f1), .int .i64 ((rd_T44 l0 x11_1).f0.f2), .int .i64 ((rd_T44 l0 x11_1).f1.f0), .int .i64 ((rd_T44 l0 x11_1).f1.f1), .int .i64 0]) ?_ 5 _ rfl; (with_reducible repeat (first | refine blk_drewN ?_ _ | refine blk_drew ?_ | refine blk_alloc ?_ _)); refine blk_put (cs := #[.int .i64 ((rd_T44 l0 x11_1).f0.f0), .int .i64 ((rd_T44 l0 x11_1).f0.f1), .int .i64 ((rd_T44 l0 x11_1).f0.f2), .int .i64 ((rd_T44 l0 x11_1).f1.f0), .int .i64 0, .int .i64 0]) ?_ 4 _ rfl; (with_reducible repeat (first | refine blk_drewN ?_ _ | refine blk_drew ?_ | refine blk_alloc ?_ _)); refine blk_put (cs := #[.int .i64 ((rd_T44 l0 x11_1).f0.f0), .int .i64 ((rd_T44 l0 x11_1).f0.f1), .int .i64 ((rd_T44 l0 x11_1).f0.f2), .int .i64 0, .int .i64 0, .int .i64 0]) ?_ 3 _ rfl; (with_reducible repeat (first | refine blk_drewN ?_ _ | refine blk_drew ?_ | refine blk_alloc ?_ _)); refine blk_put (cs := #[.int .i64 ((rd_T44 l0 x11_1).f0.f0), .int .i64 ((rd_T44 l0 x11_1).f0.f1), .int .i64 0, .int .i64 0, .int .i64 0, .int .i64 0]) ?_ 2 _ rfl; (with_reducible repeat (first | refine blk_drewN ?_ _ | refine blk_drew ?_ | refine blk_alloc ?_ _)); refine blk_put (cs := #[.int .i64 ((rd_T44 l0 x11_1).f0.f0), .int .i64 0, .int .i64 0, .int .i64 0, .int .i64 0, .int .i64 0]) ?_ 1 _ rfl; (with_reducible repeat (first | refine blk_drewN ?_ _ | refine blk_drew ?_ | refine blk_alloc ?_ _)); refine blk_put (cs := #[.int .i64 0, .int .i64 0, .int .i64 0, .int .i64 0, .int .i64 0, .int .i64 0]) ?_ 0 _ rfl; (with_reducible repeat (first | refine blk_drewN ?_ _ | refine blk_drew ?_ | refine blk_alloc ?_ _)); exact BK210.out⟩, ⟨by repeat (first | (with_reducible first | exact HB.out | apply below_alloc | apply pw_below_drewN | apply below_drew1 | refine below_set ?_ GE210.out) | exact HB.out)⟩⟩
            case round =>
              clear H'
              try clear c2
              try clear c2b0
              try clear p2
              try clear q2
              try clear hx2
              try clear c3
              try clear c3b0
              try clear c4
              try clear c4b0
              try clear hcz6_0
              try clear hcz6_1
              try clear hcz6_2
              try clear hcz6_3
              try clear hcz6_4
              try clear hcz6_5
              try clear hfz6_0
              try clear hfz6_1
              try clear hfz6_2
              try clear hfz6_3
              try clear hfz6_4
              try clear hfz6_5
              try clear hx209_0
              try clear hx209_1
              try clear hx209_2
              try clear hx209_3
              try clear hx209_4
              try clear hx209_5
              try clear p209
              try clear q209
              obtain ⟨x6_2, x17_2, rfl, rfl, HA, HK2, HO_3, BK210, HB⟩ := hrel
              cases gk with
              | zero => exact absurd HA.out (by simp [glossatorref3_Reduction.l1])
              | succ k2 =>
                have H := HA.out
                clear HA
                simp only [glossatorref3_Reduction.l1] at H
                by_cases c7 : x17_2 < (l0.length : Int)
                · rw [if_pos c7] at H
                  have c7b0 : decide (x17_2 < (l0.length : Int)) = true := decide_eq_true c7
                  clear c7
                  by_cases c8 : 0 ≤ x17_2
                  · rw [if_pos c8] at H
                    have c8b0 : decide (0 ≤ x17_2) = true := decide_eq_true c8
                    clear c8
                    by_cases c9 : x17_2 < (l0.length : Int)
                    · rw [if_pos c9] at H
                      have c9b0 : decide (x17_2 < (l0.length : Int)) = true := decide_eq_true c9
                      clear c9
                      by_cases c10 : x6_2 = true
                      · subst c10
                        have H1 : (glossatorref3_Reduction.l1 k2 l0 x3_1 true l0 (l0.length : Int) x11_1 l0 (l0.length : Int) (wrap64 (x17_2 + 1)) ((rd_T44 l0 x11_1).f0.f0) ((rd_T44 l0 x11_1).f0.f1) ((rd_T44 l0 x11_1).f0.f2) ((rd_T44 l0 x11_1).f1.f0) ((rd_T44 l0 x11_1).f1.f1) ((rd_T44 l0 x11_1).f1.f2)) = some r := by rw [if_pos rfl] at H; exact H
                        clear H
                        have H := H1
                        clear H1
                        have H' := Aside0.mk H
                        clear H
                        have p211 : 0 ≤ (x17_2 : Int) := of_decide_eq_true (by first | (with_reducible assumption) | assumption)
                        have q211 : x17_2 < (l0.length : Int) := of_decide_eq_true (by first | (with_reducible assumption) | assumption)
                        obtain ⟨ad211, e211, hx211_0, hx211_1, hx211_2, hx211_3, hx211_4, hx211_5⟩ := at_T44 HR0.out x17_2 p211 q211
                        obtain rfl : ad209 = ad211 := (by injection e211)
                        replace hx211_0 := (HB.out.cell (World.block_lt_of_cell? w _ hx211_0)).trans hx211_0
                        replace hx211_1 := (HB.out.cell (World.block_lt_of_cell? w _ hx211_1)).trans hx211_1
                        replace hx211_2 := (HB.out.cell (World.block_lt_of_cell? w _ hx211_2)).trans hx211_2
                        replace hx211_3 := (HB.out.cell (World.block_lt_of_cell? w _ hx211_3)).trans hx211_3
                        replace hx211_4 := (HB.out.cell (World.block_lt_of_cell? w _ hx211_4)).trans hx211_4
                        replace hx211_5 := (HB.out.cell (World.block_lt_of_cell? w _ hx211_5)).trans hx211_5
                        replace p211 := eq_true p211
                        replace q211 := eq_true q211
                        try go_wp2_with (first | ((with_reducible refine gate_dst (N := 8) rfl ?_); refine box_event ?hg (N := 8) ?hd (cs := #[.int .i64 0, .int .i64 0, .int .i64 0, .int .i64 0, .int .i64 0, .int .i64 0]) (t := 44) ?hr ?_; (case hd => rfl); (case hg => rfl); (case hr => first | (go_simp; done) | (go_simp; rfl)); intro gb212 hg w11 hbox hb; have n0_ := Aside0.mk (Kd.R_below (Kd.R_elderB (by (with_reducible repeat (first | apply Kd.R_alloc | apply Kd.R_drewN | apply Kd.R_drew)); exact HO_3.out) gb212 (Nat.le_of_eq hg.symm)) hb); have n1_ := Aside0.mk (blk_below (g := gb210) (o := .cells #[.int .i64 ((rd_T44 l0 x11_1).f0.f0), .int .i64 ((rd_T44 l0 x11_1).f0.f1), .int .i64 ((rd_T44 l0 x11_1).f0.f2), .int .i64 ((rd_T44 l0 x11_1).f1.f0), .int .i64 ((rd_T44 l0 x11_1).f1.f1), .int .i64 ((rd_T44 l0 x11_1).f1.f2)] 44 (0, 0)) (by (with_reducible repeat (first | refine blk_drewN ?_ _ | refine blk_drew ?_ | refine blk_alloc ?_ _)); exact BK210.out) hb); have n2_ := Aside0.mk (below_step (by repeat (first | (with_reducible first | exact HB.out | apply below_alloc | apply pw_below_drewN | apply below_drew1 | refine below_set ?_ GE210.out) | exact HB.out)) hb); have n3_ := Aside0.mk (hbox); have n4_ := Aside0.mk ((by rw [hg]; exact (below_size (by repeat (first | (with_reducible first | exact HB.out | apply below_alloc | apply pw_below_drewN | apply below_drew1 | refine below_set ?_ GE210.out) | exact HB.out))) : w.heap.size ≤ gb212)); have n5_ := Aside0.mk ((by rw [hg]; exact (below_size (by repeat (first | (with_reducible first | exact HB.out | apply below_alloc | apply pw_below_drewN | apply below_drew1 | refine below_set ?_ GE210.out) | exact HB.out))) : w.heap.size ≤ gb212)); have n6_ := Aside0.mk ((by rw [hg]; exact Nat.ne_of_lt (blk_lt (g := gb210) (o := .cells #[.int .i64 ((rd_T44 l0 x11_1).f0.f0), .int .i64 ((rd_T44 l0 x11_1).f0.f1), .int .i64 ((rd_T44 l0 x11_1).f0.f2), .int .i64 ((rd_T44 l0 x11_1).f1.f0), .int .i64 ((rd_T44 l0 x11_1).f1.f1), .int .i64 ((rd_T44 l0 x11_1).f1.f2)] 44 (0, 0)) (by (with_reducible repeat (first | refine blk_drewN ?_ _ | refine blk_drew ?_ | refine blk_alloc ?_ _)); exact BK210.out)) : gb210 ≠ gb212)); have n7_ := Aside0.mk ((by rw [hg]; exact Nat.ne_of_gt (blk_lt (g := gb210) (o := .cells #[.int .i64 ((rd_T44 l0 x11_1).f0.f0), .int .i64 ((rd_T44 l0 x11_1).f0.f1), .int .i64 ((rd_T44 l0 x11_1).f0.f2), .int .i64 ((rd_T44 l0 x11_1).f1.f0), .int .i64 ((rd_T44 l0 x11_1).f1.f1), .int .i64 ((rd_T44 l0 x11_1).f1.f2)] 44 (0, 0)) (by (with_reducible repeat (first | refine blk_drewN ?_ _ | refine blk_drew ?_ | refine blk_alloc ?_ _)); exact BK210.out)) : gb212 ≠ gb210)); clear HO_3; clear BK210; clear HB; have HO_3 := n0_; have BK210 := n1_; have HB := n2_; have BK212 := n3_; have GW212 := n4_; have GE212 := n5_; have NB210_212 := n6_; have NB212_210 := n7_; clear n0_ n1_ n2_ n3_ n4_ n5_ n6_ n7_; clear hb hbox hg; have hnb12 := NB212_210.out; have hnc12 := NB210_212.out; have hcz13_0 : w11.cell? ⟨gb212, 0, none⟩ = some (.int .i64 0) := (blk_cell BK212.out 0).trans rfl; have hcz13_1 : w11.cell? ⟨gb212, 1, none⟩ = some (.int .i64 0) := (blk_cell BK212.out 1).trans rfl; have hcz13_2 : w11.cell? ⟨gb212, 2, none⟩ = some (.int .i64 0) := (blk_cell BK212.out 2).trans rfl; have hcz13_3 : w11.cell? ⟨gb212, 3, none⟩ = some (.int .i64 0) := (blk_cell BK212.out 3).trans rfl; have hcz13_4 : w11.cell? ⟨gb212, 4, none⟩ = some (.int .i64 0) := (blk_cell BK212.out 4).trans rfl; have hcz13_5 : w11.cell? ⟨gb212, 5, none⟩ = some (.int .i64 0) := (blk_cell BK212.out 5).trans rfl; have hfz13_0 := blk_frozen BK212.out 0; have hfz13_1 := blk_frozen BK212.out 1; have hfz13_2 := blk_frozen BK212.out 2; have hfz13_3 := blk_frozen BK212.out 3; have hfz13_4 := blk_frozen BK212.out 4; have hfz13_5 := blk_frozen BK212.out 5))
                        have n0_ : Aside0 (Kd.R k44 44 ((((((w11.setCell ⟨gb212, 0, none⟩ (.int .i64 ((rd_T44 l0 x17_2).f0.f0))).setCell ⟨gb212, 1, none⟩ (.int .i64 ((rd_T44 l0 x17_2).f0.f1))).setCell ⟨gb212, 2, none⟩ (.int .i64 ((rd_T44 l0 x17_2).f0.f2))).setCell ⟨gb212, 3, none⟩ (.int .i64 ((rd_T44 l0 x17_2).f1.f0))).setCell ⟨gb212, 4, none⟩ (.int .i64 ((rd_T44 l0 x17_2).f1.f1))).setCell ⟨gb212, 5, none⟩ (.int .i64 ((rd_T44 l0 x17_2).f1.f2))) w.heap.size (fun k_ => k_ ≠ gb210 ∧ k_ ≠ gb212) u3 x3_1) := ⟨by (with_reducible repeat (first | apply Kd.R_alloc | apply Kd.R_drewN | apply Kd.R_drew)); exact Kd.R_mono (Kd.R_far (p := ⟨gb212, 5, none⟩) (Kd.R_far (p := ⟨gb212, 4, none⟩) (Kd.R_far (p := ⟨gb212, 3, none⟩) (Kd.R_far (p := ⟨gb212, 2, none⟩) (Kd.R_far (p := ⟨gb212, 1, none⟩) (Kd.R_far (p := ⟨gb212, 0, none⟩) (Kd.R_mono HO_3.out (fun k_ hk => (⟨hk, hk.2⟩ : _ ∧ k_ ≠ gb212))) (fun _ hk => hk.2) (.int .i64 ((rd_T44 l0 x17_2).f0.f0))) (fun _ hk => hk.2) (.int .i64 ((rd_T44 l0 x17_2).f0.f1))) (fun _ hk => hk.2) (.int .i64 ((rd_T44 l0 x17_2).f0.f2))) (fun _ hk => hk.2) (.int .i64 ((rd_T44 l0 x17_2).f1.f0))) (fun _ hk => hk.2) (.int .i64 ((rd_T44 l0 x17_2).f1.f1))) (fun _ hk => hk.2) (.int .i64 ((rd_T44 l0 x17_2).f1.f2))) (fun _ hk => ⟨hk.1.1, hk.1.2⟩)⟩
                        have n1_ : Aside0 (((((((w11.setCell ⟨gb212, 0, none⟩ (.int .i64 ((rd_T44 l0 x17_2).f0.f0))).setCell ⟨gb212, 1, none⟩ (.int .i64 ((rd_T44 l0 x17_2).f0.f1))).setCell ⟨gb212, 2, none⟩ (.int .i64 ((rd_T44 l0 x17_2).f0.f2))).setCell ⟨gb212, 3, none⟩ (.int .i64 ((rd_T44 l0 x17_2).f1.f0))).setCell ⟨gb212, 4, none⟩ (.int .i64 ((rd_T44 l0 x17_2).f1.f1))).setCell ⟨gb212, 5, none⟩ (.int .i64 ((rd_T44 l0 x17_2).f1.f2))).heap[gb210]? = some (.cells #[.int .i64 ((rd_T44 l0 x11_1).f0.f0), .int .i64 ((rd_T44 l0 x11_1).f0.f1), .int .i64 ((rd_T44 l0 x11_1).f0.f2), .int .i64 ((rd_T44 l0 x11_1).f1.f0), .int .i64 ((rd_T44 l0 x11_1).f1.f1), .int .i64 ((rd_T44 l0 x11_1).f1.f2)] 44 (0, 0))) := ⟨by (with_reducible repeat (first | refine blk_drewN ?_ _ | refine blk_drew ?_ | refine blk_alloc ?_ _)); refine blk_far ?_ NB210_212.out _; (with_reducible repeat (first | refine blk_drewN ?_ _ | refine blk_drew ?_ | refine blk_alloc ?_ _)); refine blk_far ?_ NB210_212.out _; (with_reducible repeat (first | refine blk_drewN ?_ _ | refine blk_drew ?_ | refine blk_alloc ?_ _)); refine blk_far ?_ NB210_212.out _; (with_reducible repeat (first | refine blk_drewN ?_ _ | refine blk_drew ?_ | refine blk_alloc ?_ _)); refine blk_far ?_ NB210_212.out _; (with_reducible repeat (first | refine blk_drewN ?_ _ | refine blk_drew ?_ | refine blk_alloc ?_ _)); refine blk_far ?_ NB210_212.out _; (with_reducible repeat (first | refine blk_drewN ?_ _ | refine blk_drew ?_ | refine blk_alloc ?_ _)); refine blk_far ?_ NB210_212.out _; (with_reducible repeat (first | refine blk_drewN ?_ _ | refine blk_drew ?_ | refine blk_alloc ?_ _)); exact BK210.out⟩
                        have n2_ : Aside0 (((((((w11.setCell ⟨gb212, 0, none⟩ (.int .i64 ((rd_T44 l0 x17_2).f0.f0))).setCell ⟨gb212, 1, none⟩ (.int .i64 ((rd_T44 l0 x17_2).f0.f1))).setCell ⟨gb212, 2, none⟩ (.int .i64 ((rd_T44 l0 x17_2).f0.f2))).setCell ⟨gb212, 3, none⟩ (.int .i64 ((rd_T44 l0 x17_2).f1.f0))).setCell ⟨gb212, 4, none⟩ (.int .i64 ((rd_T44 l0 x17_2).f1.f1))).setCell ⟨gb212, 5, none⟩ (.int .i64 ((rd_T44 l0 x17_2).f1.f2))).heap[gb212]? = some (.cells #[.int .i64 ((rd_T44 l0 x17_2).f0.f0), .int .i64 ((rd_T44 l0 x17_2).f0.f1), .int .i64 ((rd_T44 l0 x17_2).f0.f2), .int .i64 ((rd_T44 l0 x17_2).f1.f0), .int .i64 ((rd_T44 l0 x17_2).f1.f1), .int .i64 ((rd_T44 l0 x17_2).f1.f2)] 44 (0, 0))) := ⟨by (with_reducible repeat (first | refine blk_drewN ?_ _ | refine blk_drew ?_ | refine blk_alloc ?_ _)); refine blk_put (cs := #[.int .i64 ((rd_T44 l0 x17_2).f0.f0), .int .i64 ((rd_T44 l0 x17_2).f0.f1), .int .i64 ((rd_T44 l0 x17_2).f0.f2), .int .i64 ((rd_T44 l0 x17_2).f1.f0), .int .i64 ((rd_T44 l0 x17_2).f1.f1), .int .i64 0]) ?_ 5 _ rfl; (with_reducible repeat (first | refine blk_drewN ?_ _ | refine blk_drew ?_ | refine blk_alloc ?_ _)); refine blk_put (cs := #[.int .i64 ((rd_T44 l0 x17_2).f0.f0), .int .i64 ((rd_T44 l0 x17_2).f0.f1), .int .i64 ((rd_T44 l0 x17_2).f0.f2), .int .i64 ((rd_T44 l0 x17_2).f1.f0), .int .i64 0, .int .i64 0]) ?_ 4 _ rfl; (with_reducible repeat (first | refine blk_drewN ?_ _ | refine blk_drew ?_ | refine blk_alloc ?_ _)); refine blk_put (cs := #[.int .i64 ((rd_T44 l0 x17_2).f0.f0), .int .i64 ((rd_T44 l0 x17_2).f0.f1), .int .i64 ((rd_T44 l0 x17_2).f0.f2), .int .i64 0, .int .i64 0, .int .i64 0]) ?_ 3 _ rfl; (with_reducible repeat (first | refine blk_drewN ?_ _ | refine blk_drew ?_ | refine blk_alloc ?_ _)); refine blk_put (cs := #[.int .i64 ((rd_T44 l0 x17_2).f0.f0), .int .i64 ((rd_T44 l0 x17_2).f0.f1), .int .i64 0, .int .i64 0, .int .i64 0, .int .i64 0]) ?_ 2 _ rfl; (with_reducible repeat (first | refine blk_drewN ?_ _ | refine blk_drew ?_ | refine blk_alloc ?_ _)); refine blk_put (cs := #[.int .i64 ((rd_T44 l0 x17_2).f0.f0), .int .i64 0, .int .i64 0, .int .i64 0, .int .i64 0, .int .i64 0]) ?_ 1 _ rfl; (with_reducible repeat (first | refine blk_drewN ?_ _ | refine blk_drew ?_ | refine blk_alloc ?_ _)); refine blk_put (cs := #[.int .i64 0, .int .i64 0, .int .i64 0, .int .i64 0, .int .i64 0, .int .i64 0]) ?_ 0 _ rfl; (with_reducible repeat (first | refine blk_drewN ?_ _ | refine blk_drew ?_ | refine blk_alloc ?_ _)); exact BK212.out⟩
                        have n3_ : Aside0 (Below w.heap.size w ((((((w11.setCell ⟨gb212, 0, none⟩ (.int .i64 ((rd_T44 l0 x17_2).f0.f0))).setCell ⟨gb212, 1, none⟩ (.int .i64 ((rd_T44 l0 x17_2).f0.f1))).setCell ⟨gb212, 2, none⟩ (.int .i64 ((rd_T44 l0 x17_2).f0.f2))).setCell ⟨gb212, 3, none⟩ (.int .i64 ((rd_T44 l0 x17_2).f1.f0))).setCell ⟨gb212, 4, none⟩ (.int .i64 ((rd_T44 l0 x17_2).f1.f1))).setCell ⟨gb212, 5, none⟩ (.int .i64 ((rd_T44 l0 x17_2).f1.f2)))) := ⟨by repeat (first | (with_reducible first | exact HB.out | apply below_alloc | apply pw_below_drewN | apply below_drew1 | refine below_set ?_ GE210.out | refine below_set ?_ GE212.out) | exact HB.out)⟩
                        (try clear HO_3)
                        (try clear BK210)
                        (try clear BK212)
                        (try clear HB)
                        generalize ((((((w11.setCell ⟨gb212, 0, none⟩ (.int .i64 ((rd_T44 l0 x17_2).f0.f0))).setCell ⟨gb212, 1, none⟩ (.int .i64 ((rd_T44 l0 x17_2).f0.f1))).setCell ⟨gb212, 2, none⟩ (.int .i64 ((rd_T44 l0 x17_2).f0.f2))).setCell ⟨gb212, 3, none⟩ (.int .i64 ((rd_T44 l0 x17_2).f1.f0))).setCell ⟨gb212, 4, none⟩ (.int .i64 ((rd_T44 l0 x17_2).f1.f1))).setCell ⟨gb212, 5, none⟩ (.int .i64 ((rd_T44 l0 x17_2).f1.f2))) = w14 at n0_ n1_ n2_ n3_ ⊢
                        have HO_3 := n0_
                        have BK210 := n1_
                        have BK212 := n2_
                        have HB := n3_
                        clear n0_ n1_ n2_ n3_
                        have n0_ := Aside0.mk (Kd.R_drew HO_3.out)
                        have n1_ := Aside0.mk (blk_drew BK210.out)
                        have n2_ := Aside0.mk (blk_drew BK212.out)
                        have n3_ := Aside0.mk (below_drew1 HB.out)
                        clear HO_3
                        clear BK210
                        clear BK212
                        clear HB
                        have HO_3 := n0_
                        have BK210 := n1_
                        have BK212 := n2_
                        have HB := n3_
                        clear n0_ n1_ n2_ n3_
                        refine start_ (n := 25) (S := fun w' => True) (ds := []) #[false, false, false, false, false, false, false, false, false, false, false, false, false, false, false, false, false, false, false, false, false, false, false, false, false] (by kernel_rfl) rfl rfl trivial (fun hHeld => ?_); refine with_tabW glossatorref3_Reduction.tab9 glossatorref3_Reduction.bits9 (fun HT_ HW_ => ?_)
                        generalize w14.drew = w15 at HO_3 BK210 BK212 HB hHeld ⊢
                        refine pure_ (i := 0) (N := some 21) (v := ?_) (a' := ?_) #[true, false, false, false, false, false, false, false, false, false, false, false, false, false, false, false, false, false, false, false, false, false, false, false, false] rfl rfl (any_of HT_.out (by kernel_rfl)) (fun _ _ _ h => h) (Or.inl ⟨by rfl, ?_⟩) ?_ ?_
                        rotate_left
                        · intro w'
                          go_simp
                          with_reducible rfl
                        rotate_left
                        · simp only [Act.put, List.setIfInBounds_toArray, List.set_cons_zero, List.set_cons_succ, i64_w, i32_w]
                          rfl
                        refine pure_ (i := 1) (N := some 22) (v := ?_) (a' := ?_) #[true, true, false, false, false, false, false, false, false, false, false, false, false, false, false, false, false, false, false, false, false, false, false, false, false] rfl rfl (any_of HT_.out (by kernel_rfl)) (fun _ _ _ h => h) (Or.inl ⟨by rfl, ?_⟩) ?_ ?_
                        rotate_left
                        · intro w'
                          go_simp
                          with_reducible rfl
                        rotate_left
                        · simp only [Act.put, List.setIfInBounds_toArray, List.set_cons_zero, List.set_cons_succ, i64_w, i32_w]
                          rfl
                        refine pure_ (i := 2) (N := some 23) (v := undef) (a' := ?_) #[true, true, true, false, false, false, false, false, false, false, false, false, false, false, false, false, false, false, false, false, false, false, false, false, false] rfl rfl (any_of HT_.out (by kernel_rfl)) (fun _ _ _ h => h) (Or.inr ⟨by rfl, rfl⟩) ?_ ?_
                        rotate_left
                        · simp only [Act.put, List.setIfInBounds_toArray, List.set_cons_zero, List.set_cons_succ, i64_w, i32_w]
                          rfl
                        refine pure_ (i := 3) (N := some 24) (v := undef) (a' := ?_) #[true, true, true, true, false, false, false, false, false, false, false, false, false, false, false, false, false, false, false, false, false, false, false, false, false] rfl rfl (any_of HT_.out (by kernel_rfl)) (fun _ _ _ h => h) (Or.inr ⟨by rfl, rfl⟩) ?_ ?_
                        rotate_left
                        · simp only [Act.put, List.setIfInBounds_toArray, List.set_cons_zero, List.set_cons_succ, i64_w, i32_w]
                          rfl
                        refine pure_ (i := 4) (N := some 25) (v := undef) (a' := ?_) #[true, true, true, true, true, false, false, false, false, false, false, false, false, false, false, false, false, false, false, false, false, false, false, false, false] rfl rfl (any_of HT_.out (by kernel_rfl)) (fun _ _ _ h => h) (Or.inr ⟨by rfl, rfl⟩) ?_ ?_
                        rotate_left
                        · simp only [Act.put, List.setIfInBounds_toArray, List.set_cons_zero, List.set_cons_succ, i64_w, i32_w]
                          rfl
                        refine pure_ (i := 5) (N := some 26) (v := undef) (a' := ?_) #[true, true, true, true, true, true, false, false, false, false, false, false, false, false, false, false, false, false, false, false, false, false, false, false, false] rfl rfl (any_of HT_.out (by kernel_rfl)) (fun _ _ _ h => h) (Or.inr ⟨by rfl, rfl⟩) ?_ ?_
                        rotate_left
                        · simp only [Act.put, List.setIfInBounds_toArray, List.set_cons_zero, List.set_cons_succ, i64_w, i32_w]
                          rfl
                        refine pure_ (i := 6) (N := some 27) (v := undef) (a' := ?_) #[true, true, true, true, true, true, true, false, false, false, false, false, false, false, false, false, false, false, false, false, false, false, false, false, false] rfl rfl (any_of HT_.out (by kernel_rfl)) (fun _ _ _ h => h) (Or.inr ⟨by rfl, rfl⟩) ?_ ?_
                        rotate_left
                        · simp only [Act.put, List.setIfInBounds_toArray, List.set_cons_zero, List.set_cons_succ, i64_w, i32_w]
                          rfl
                        refine pure_ (i := 7) (N := some 28) (v := undef) (a' := ?_) #[true, true, true, true, true, true, true, true, false, false, false, false, false, false, false, false, false, false, false, false, false, false, false, false, false] rfl rfl (any_of HT_.out (by kernel_rfl)) (fun _ _ _ h => h) (Or.inr ⟨by rfl, rfl⟩) ?_ ?_
                        rotate_left
                        · simp only [Act.put, List.setIfInBounds_toArray, List.set_cons_zero, List.set_cons_succ, i64_w, i32_w]
                          rfl
                        refine pure_ (i := 8) (N := some 29) (v := undef) (a' := ?_) #[true, true, true, true, true, true, true, true, true, false, false, false, false, false, false, false, false, false, false, false, false, false, false, false, false] rfl rfl (any_of HT_.out (by kernel_rfl)) (fun _ _ _ h => h) (Or.inr ⟨by rfl, rfl⟩) ?_ ?_
                        rotate_left
                        · simp only [Act.put, List.setIfInBounds_toArray, List.set_cons_zero, List.set_cons_succ, i64_w, i32_w]
                          rfl
                        refine pure_ (i := 9) (N := some 30) (v := undef) (a' := ?_) #[true, true, true, true, true, true, true, true, true, true, false, false, false, false, false, false, false, false, false, false, false, false, false, false, false] rfl rfl (any_of HT_.out (by kernel_rfl)) (fun _ _ _ h => h) (Or.inr ⟨by rfl, rfl⟩) ?_ ?_
                        rotate_left
                        · simp only [Act.put, List.setIfInBounds_toArray, List.set_cons_zero, List.set_cons_succ, i64_w, i32_w]
                          rfl
                        refine pure_ (i := 10) (N := some 31) (v := undef) (a' := ?_) #[true, true, true, true, true, true, true, true, true, true, true, false, false, false, false, false, false, false, false, false, false, false, false, false, false] rfl rfl (any_of HT_.out (by kernel_rfl)) (fun _ _ _ h => h) (Or.inr ⟨by rfl, rfl⟩) ?_ ?_
                        rotate_left
                        · simp only [Act.put, List.setIfInBounds_toArray, List.set_cons_zero, List.set_cons_succ, i64_w, i32_w]
                          rfl
                        refine pure_ (i := 11) (N := some 32) (v := undef) (a' := ?_) #[true, true, true, true, true, true, true, true, true, true, true, true, false, false, false, false, false, false, false, false, false, false, false, false, false] rfl rfl (any_of HT_.out (by kernel_rfl)) (fun _ _ _ h => h) (Or.inr ⟨by rfl, rfl⟩) ?_ ?_
                        rotate_left
                        · simp only [Act.put, List.setIfInBounds_toArray, List.set_cons_zero, List.set_cons_succ, i64_w, i32_w]
                          rfl
                        refine pure_ (i := 12) (N := some 33) (v := undef) (a' := ?_) #[true, true, true, true, true, true, true, true, true, true, true, true, true, false, false, false, false, false, false, false, false, false, false, false, false] rfl rfl (any_of HT_.out (by kernel_rfl)) (fun _ _ _ h => h) (Or.inr ⟨by rfl, rfl⟩) ?_ ?_
                        rotate_left
                        · simp only [Act.put, List.setIfInBounds_toArray, List.set_cons_zero, List.set_cons_succ, i64_w, i32_w]
                          rfl
                        refine pure_ (i := 13) (N := some 34) (v := undef) (a' := ?_) #[true, true, true, true, true, true, true, true, true, true, true, true, true, true, false, false, false, false, false, false, false, false, false, false, false] rfl rfl (any_of HT_.out (by kernel_rfl)) (fun _ _ _ h => h) (Or.inr ⟨by rfl, rfl⟩) ?_ ?_
                        rotate_left
                        · simp only [Act.put, List.setIfInBounds_toArray, List.set_cons_zero, List.set_cons_succ, i64_w, i32_w]
                          rfl
                        refine pure_ (i := 14) (N := some 35) (v := undef) (a' := ?_) #[true, true, true, true, true, true, true, true, true, true, true, true, true, true, true, false, false, false, false, false, false, false, false, false, false] rfl rfl (any_of HT_.out (by kernel_rfl)) (fun _ _ _ h => h) (Or.inr ⟨by rfl, rfl⟩) ?_ ?_
                        rotate_left
                        · simp only [Act.put, List.setIfInBounds_toArray, List.set_cons_zero, List.set_cons_succ, i64_w, i32_w]
                          rfl
                        refine pure_ (i := 15) (N := some 36) (v := undef) (a' := ?_) #[true, true, true, true, true, true, true, true, true, true, true, true, true, true, true, true, false, false, false, false, false, false, false, false, false] rfl rfl (any_of HT_.out (by kernel_rfl)) (fun _ _ _ h => h) (Or.inr ⟨by rfl, rfl⟩) ?_ ?_
                        rotate_left
                        · simp only [Act.put, List.setIfInBounds_toArray, List.set_cons_zero, List.set_cons_succ, i64_w, i32_w]
                          rfl
                        refine pure_ (i := 16) (N := some 37) (v := undef) (a' := ?_) #[true, true, true, true, true, true, true, true, true, true, true, true, true, true, true, true, true, false, false, false, false, false, false, false, false] rfl rfl (any_of HT_.out (by kernel_rfl)) (fun _ _ _ h => h) (Or.inr ⟨by rfl, rfl⟩) ?_ ?_
                        rotate_left
                        · simp only [Act.put, List.setIfInBounds_toArray, List.set_cons_zero, List.set_cons_succ, i64_w, i32_w]
                          rfl
                        refine pure_ (i := 17) (N := some 38) (v := undef) (a' := ?_) #[true, true, true, true, true, true, true, true, true, true, true, true, true, true, true, true, true, true, false, false, false, false, false, false, false] rfl rfl (any_of HT_.out (by kernel_rfl)) (fun _ _ _ h => h) (Or.inr ⟨by rfl, rfl⟩) ?_ ?_
                        rotate_left
                        · simp only [Act.put, List.setIfInBounds_toArray, List.set_cons_zero, List.set_cons_succ, i64_w, i32_w]
                          rfl
                        refine pure_ (i := 18) (N := some 39) (v := undef) (a' := ?_) #[true, true, true, true, true, true, true, true, true, true, true, true, true, true, true, true, true, true, true, false, false, false, false, false, false] rfl rfl (any_of HT_.out (by kernel_rfl)) (fun _ _ _ h => h) (Or.inr ⟨by rfl, rfl⟩) ?_ ?_
                        rotate_left
                        · simp only [Act.put, List.setIfInBounds_toArray, List.set_cons_zero, List.set_cons_succ, i64_w, i32_w]
                          rfl
                        refine pure_ (i := 19) (N := some 40) (v := undef) (a' := ?_) #[true, true, true, true, true, true, true, true, true, true, true, true, true, true, true, true, true, true, true, true, false, false, false, false, false] rfl rfl (any_of HT_.out (by kernel_rfl)) (fun _ _ _ h => h) (Or.inr ⟨by rfl, rfl⟩) ?_ ?_
                        rotate_left
                        · simp only [Act.put, List.setIfInBounds_toArray, List.set_cons_zero, List.set_cons_succ, i64_w, i32_w]
                          rfl
                        refine pure_ (i := 20) (N := some 41) (v := undef) (a' := ?_) #[true, true, true, true, true, true, true, true, true, true, true, true, true, true, true, true, true, true, true, true, true, false, false, false, false] rfl rfl (any_of HT_.out (by kernel_rfl)) (fun _ _ _ h => h) (Or.inr ⟨by rfl, rfl⟩) ?_ ?_
                        rotate_left
                        · simp only [Act.put, List.setIfInBounds_toArray, List.set_cons_zero, List.set_cons_succ, i64_w, i32_w]
                          rfl
                        refine pure_ (i := 21) (N := some 42) (v := undef) (a' := ?_) #[true, true, true, true, true, true, true, true, true, true, true, true, true, true, true, true, true, true, true, true, true, true, false, false, false] rfl rfl (any_of HT_.out (by kernel_rfl)) (fun _ _ _ h => h) (Or.inr ⟨by rfl, rfl⟩) ?_ ?_
                        rotate_left
                        · simp only [Act.put, List.setIfInBounds_toArray, List.set_cons_zero, List.set_cons_succ, i64_w, i32_w]
                          rfl
                        refine pure_ (i := 22) (N := some 43) (v := undef) (a' := ?_) #[true, true, true, true, true, true, true, true, true, true, true, true, true, true, true, true, true, true, true, true, true, true, true, false, false] rfl rfl (any_of HT_.out (by kernel_rfl)) (fun _ _ _ h => h) (Or.inr ⟨by rfl, rfl⟩) ?_ ?_
                        rotate_left
                        · simp only [Act.put, List.setIfInBounds_toArray, List.set_cons_zero, List.set_cons_succ, i64_w, i32_w]
                          rfl
                        refine pure_ (i := 23) (N := some 44) (v := ?_) (a' := ?_) #[true, true, true, true, true, true, true, true, true, true, true, true, true, true, true, true, true, true, true, true, true, true, true, true, false] rfl rfl (any_of HT_.out (by kernel_rfl)) (fun _ _ _ h => h) (Or.inl ⟨by rfl, ?_⟩) ?_ ?_
                        rotate_left
                        · intro w'
                          go_simp
                          with_reducible rfl
                        rotate_left
                        · simp only [Act.put, List.setIfInBounds_toArray, List.set_cons_zero, List.set_cons_succ, i64_w, i32_w]
                          rfl
                        refine pure_ (i := 24) (N := some 6) (v := ?_) (a' := ?_) #[true, true, true, true, true, true, true, true, true, true, true, true, true, true, true, true, true, true, true, true, true, true, true, true, true] rfl rfl (any_of HT_.out (by kernel_rfl)) (fun _ _ _ h => h) (Or.inl ⟨by rfl, ?_⟩) ?_ ?_
                        rotate_left
                        · intro w'
                          go_simp
                          with_reducible rfl
                        rotate_left
                        · simp only [Act.put, List.setIfInBounds_toArray, List.set_cons_zero, List.set_cons_succ, i64_w, i32_w]
                          rfl
                        refine done_ (done_of HT_.out (by kernel_rfl)) ?_
                        try go_wp2
                        go_roundg k2
                        case measure => have := HK1.out; have := HK2.out; omega
                        case rel => exact ⟨(true), (wrap64 (x17_2 + 1)), (by first | rfl | (simp; done) | (simp [*]; done) | (simp [isEmpty_bne]; done)), (by first | rfl | (simp; done) | (simp [*]; done) | (simp [isEmpty_bne]; done)), H', ⟨by have := HK1.out; have := HK2.out; omega⟩, ⟨by (with_reducible repeat (first | apply Kd.R_alloc | apply Kd.R_drewN | apply Kd.R_drew)); exact Kd.R_mono HO_3.out (fun _ hk => hk.1)⟩, ⟨by (with_reducible repeat (first | refine blk_drewN ?_ _ | refine blk_drew ?_ | refine blk_alloc ?_ _)); exact BK210.out⟩, ⟨by repeat (first | (with_reducible first | exact HB.out | apply below_alloc | apply pw_below_drewN | apply below_drew1 | refine below_set ?_ GE210.out | refine below_set ?_ GE212.out) | exact HB.out)⟩⟩
                      · replace c10 := Bool.eq_false_iff.mpr c10
                        subst c10
                        have H1 : (if (((rd_T44 l0 x17_2).f0.f0) == ((rd_T44 l0 x11_1).f0.f0) && (((rd_T44 l0 x17_2).f0.f1) == ((rd_T44 l0 x11_1).f0.f1) && (((rd_T44 l0 x17_2).f0.f2) == ((rd_T44 l0 x11_1).f0.f2)))) = true then (if (!(((rd_T44 l0 x17_2).f1.f0) == ((rd_T44 l0 x11_1).f1.f0)) || (!(((rd_T44 l0 x17_2).f1.f1) == ((rd_T44 l0 x11_1).f1.f1)) || (!(((rd_T44 l0 x17_2).f1.f2) == ((rd_T44 l0 x11_1).f1.f2))))) = true then ((glossatorref3_Reachable.f k2 l0 ((rd_T44 l0 x17_2).f1.f0) ((rd_T44 l0 x17_2).f1.f1) ((rd_T44 l0 x17_2).f1.f2)).bind fun t213 => ((api_QKey_23.f k2 t213 ((rd_T44 l0 x11_1).f1.f0) ((rd_T44 l0 x11_1).f1.f1) ((rd_T44 l0 x11_1).f1.f2)).bind fun t216 => (glossatorref3_Reduction.l1 k2 l0 x3_1 t216 l0 (l0.length : Int) x11_1 l0 (l0.length : Int) (wrap64 (x17_2 + 1)) ((rd_T44 l0 x11_1).f0.f0) ((rd_T44 l0 x11_1).f0.f1) ((rd_T44 l0 x11_1).f0.f2) ((rd_T44 l0 x11_1).f1.f0) ((rd_T44 l0 x11_1).f1.f1) ((rd_T44 l0 x11_1).f1.f2)))) else (glossatorref3_Reduction.l1 k2 l0 x3_1 false l0 (l0.length : Int) x11_1 l0 (l0.length : Int) (wrap64 (x17_2 + 1)) ((rd_T44 l0 x11_1).f0.f0) ((rd_T44 l0 x11_1).f0.f1) ((rd_T44 l0 x11_1).f0.f2) ((rd_T44 l0 x11_1).f1.f0) ((rd_T44 l0 x11_1).f1.f1) ((rd_T44 l0 x11_1).f1.f2))) else (glossatorref3_Reduction.l1 k2 l0 x3_1 false l0 (l0.length : Int) x11_1 l0 (l0.length : Int) (wrap64 (x17_2 + 1)) ((rd_T44 l0 x11_1).f0.f0) ((rd_T44 l0 x11_1).f0.f1) ((rd_T44 l0 x11_1).f0.f2) ((rd_T44 l0 x11_1).f1.f0) ((rd_T44 l0 x11_1).f1.f1) ((rd_T44 l0 x11_1).f1.f2))) = some r := by rw [if_neg (show ¬ (false = true) by decide)] at H; exact H
                        clear H
                        have H := H1
                        clear H1
                        by_cases c16 : (((rd_T44 l0 x17_2).f0.f0) == ((rd_T44 l0 x11_1).f0.f0) && (((rd_T44 l0 x17_2).f0.f1) == ((rd_T44 l0 x11_1).f0.f1) && (((rd_T44 l0 x17_2).f0.f2) == ((rd_T44 l0 x11_1).f0.f2)))) = true
                        · rw [if_pos c16] at H
                          have c16b0 : (((rd_T44 l0 x17_2).f0.f0) == ((rd_T44 l0 x11_1).f0.f0) && (((rd_T44 l0 x17_2).f0.f1) == ((rd_T44 l0 x11_1).f0.f1) && (((rd_T44 l0 x17_2).f0.f2) == ((rd_T44 l0 x11_1).f0.f2)))) = true := c16
                          (try (have c16b1 : decide (((rd_T44 l0 x17_2).f0.f0) = ((rd_T44 l0 x11_1).f0.f0) && (((rd_T44 l0 x17_2).f0.f1) == ((rd_T44 l0 x11_1).f0.f1) && (((rd_T44 l0 x17_2).f0.f2) == ((rd_T44 l0 x11_1).f0.f2)))) = true := by simpa using c16))
                          (try (have c16b2 : (((rd_T44 l0 x17_2).f0.f0) == ((rd_T44 l0 x11_1).f0.f0) && (((rd_T44 l0 x17_2).f0.f1) == ((rd_T44 l0 x11_1).f0.f1) && (((rd_T44 l0 x17_2).f0.f2) == ((rd_T44 l0 x11_1).f0.f2)))) = true := by simpa using c16))
                          clear c16
                          by_cases c17 : (!(((rd_T44 l0 x17_2).f1.f0) == ((rd_T44 l0 x11_1).f1.f0)) || (!(((rd_T44 l0 x17_2).f1.f1) == ((rd_T44 l0 x11_1).f1.f1)) || (!(((rd_T44 l0 x17_2).f1.f2) == ((rd_T44 l0 x11_1).f1.f2))))) = true
                          · rw [if_pos c17] at H
                            have c17b0 : (!(((rd_T44 l0 x17_2).f1.f0) == ((rd_T44 l0 x11_1).f1.f0)) || (!(((rd_T44 l0 x17_2).f1.f1) == ((rd_T44 l0 x11_1).f1.f1)) || (!(((rd_T44 l0 x17_2).f1.f2) == ((rd_T44 l0 x11_1).f1.f2))))) = true := c17
                            clear c17
                            replace H := Option.bind_eq_some_iff.mp H
                            obtain ⟨t213, A180, H⟩ := H
                            replace H : ((api_QKey_23.f k2 t213 ((rd_T44 l0 x11_1).f1.f0) ((rd_T44 l0 x11_1).f1.f1) ((rd_T44 l0 x11_1).f1.f2)).bind fun t216 => (glossatorref3_Reduction.l1 k2 l0 x3_1 t216 l0 (l0.length : Int) x11_1 l0 (l0.length : Int) (wrap64 (x17_2 + 1)) ((rd_T44 l0 x11_1).f0.f0) ((rd_T44 l0 x11_1).f0.f1) ((rd_T44 l0 x11_1).f0.f2) ((rd_T44 l0 x11_1).f1.f0) ((rd_T44 l0 x11_1).f1.f1) ((rd_T44 l0 x11_1).f1.f2))) = some r := H
                            have A18 := Aside0.mk A180
                            clear A180
                            replace H := Option.bind_eq_some_iff.mp H
                            obtain ⟨t216, A190, H⟩ := H
                            replace H : (glossatorref3_Reduction.l1 k2 l0 x3_1 t216 l0 (l0.length : Int) x11_1 l0 (l0.length : Int) (wrap64 (x17_2 + 1)) ((rd_T44 l0 x11_1).f0.f0) ((rd_T44 l0 x11_1).f0.f1) ((rd_T44 l0 x11_1).f0.f2) ((rd_T44 l0 x11_1).f1.f0) ((rd_T44 l0 x11_1).f1.f1) ((rd_T44 l0 x11_1).f1.f2)) = some r := H
                            have A19 := Aside0.mk A190
                            clear A190
                            have H' := Aside0.mk H
                            clear H
                            have p211 : 0 ≤ (x17_2 : Int) := of_decide_eq_true (by first | (with_reducible assumption) | assumption)
                            have q211 : x17_2 < (l0.length : Int) := of_decide_eq_true (by first | (with_reducible assumption) | assumption)
                            obtain ⟨ad211, e211, hx211_0, hx211_1, hx211_2, hx211_3, hx211_4, hx211_5⟩ := at_T44 HR0.out x17_2 p211 q211
                            obtain rfl : ad209 = ad211 := (by injection e211)
                            replace hx211_0 := (HB.out.cell (World.block_lt_of_cell? w _ hx211_0)).trans hx211_0
                            replace hx211_1 := (HB.out.cell (World.block_lt_of_cell? w _ hx211_1)).trans hx211_1
                            replace hx211_2 := (HB.out.cell (World.block_lt_of_cell? w _ hx211_2)).trans hx211_2
                            replace hx211_3 := (HB.out.cell (World.block_lt_of_cell? w _ hx211_3)).trans hx211_3
                            replace hx211_4 := (HB.out.cell (World.block_lt_of_cell? w _ hx211_4)).trans hx211_4
                            replace hx211_5 := (HB.out.cell (World.block_lt_of_cell? w _ hx211_5)).trans hx211_5
                            replace p211 := eq_true p211
                            replace q211 := eq_true q211
                            try go_wp2_with (first | ((with_reducible refine gate_dst (N := 8) rfl ?_); refine box_event ?hg (N := 8) ?hd (cs := #[.int .i64 0, .int .i64 0, .int .i64 0, .int .i64 0, .int .i64 0, .int .i64 0]) (t := 44) ?hr ?_; (case hd => rfl); (case hg => rfl); (case hr => first | (go_simp; done) | (go_simp; rfl)); intro gb212 hg w20 hbox hb; have n0_ := Aside0.mk (Kd.R_below (Kd.R_elderB (by (with_reducible repeat (first | apply Kd.R_alloc | apply Kd.R_drewN | apply Kd.R_drew)); exact HO_3.out) gb212 (Nat.le_of_eq hg.symm)) hb); have n1_ := Aside0.mk (blk_below (g := gb210) (o := .cells #[.int .i64 ((rd_T44 l0 x11_1).f0.f0), .int .i64 ((rd_T44 l0 x11_1).f0.f1), .int .i64 ((rd_T44 l0 x11_1).f0.f2), .int .i64 ((rd_T44 l0 x11_1).f1.f0), .int .i64 ((rd_T44 l0 x11_1).f1.f1), .int .i64 ((rd_T44 l0 x11_1).f1.f2)] 44 (0, 0)) (by (with_reducible repeat (first | refine blk_drewN ?_ _ | refine blk_drew ?_ | refine blk_alloc ?_ _)); exact BK210.out) hb); have n2_ := Aside0.mk (below_step (by repeat (first | (with_reducible first | exact HB.out | apply below_alloc | apply pw_below_drewN | apply below_drew1 | refine below_set ?_ GE210.out) | exact HB.out)) hb); have n3_ := Aside0.mk (hbox); have n4_ := Aside0.mk ((by rw [hg]; exact (below_size (by repeat (first | (with_reducible first | exact HB.out | apply below_alloc | apply pw_below_drewN | apply below_drew1 | refine below_set ?_ GE210.out) | exact HB.out))) : w.heap.size ≤ gb212)); have n5_ := Aside0.mk ((by rw [hg]; exact (below_size (by repeat (first | (with_reducible first | exact HB.out | apply below_alloc | apply pw_below_drewN | apply below_drew1 | refine below_set ?_ GE210.out) | exact HB.out))) : w.heap.size ≤ gb212)); have n6_ := Aside0.mk ((by rw [hg]; exact Nat.ne_of_lt (blk_lt (g := gb210) (o := .cells #[.int .i64 ((rd_T44 l0 x11_1).f0.f0), .int .i64 ((rd_T44 l0 x11_1).f0.f1), .int .i64 ((rd_T44 l0 x11_1).f0.f2), .int .i64 ((rd_T44 l0 x11_1).f1.f0), .int .i64 ((rd_T44 l0 x11_1).f1.f1), .int .i64 ((rd_T44 l0 x11_1).f1.f2)] 44 (0, 0)) (by (with_reducible repeat (first | refine blk_drewN ?_ _ | refine blk_drew ?_ | refine blk_alloc ?_ _)); exact BK210.out)) : gb210 ≠ gb212)); have n7_ := Aside0.mk ((by rw [hg]; exact Nat.ne_of_gt (blk_lt (g := gb210) (o := .cells #[.int .i64 ((rd_T44 l0 x11_1).f0.f0), .int .i64 ((rd_T44 l0 x11_1).f0.f1), .int .i64 ((rd_T44 l0 x11_1).f0.f2), .int .i64 ((rd_T44 l0 x11_1).f1.f0), .int .i64 ((rd_T44 l0 x11_1).f1.f1), .int .i64 ((rd_T44 l0 x11_1).f1.f2)] 44 (0, 0)) (by (with_reducible repeat (first | refine blk_drewN ?_ _ | refine blk_drew ?_ | refine blk_alloc ?_ _)); exact BK210.out)) : gb212 ≠ gb210)); clear HO_3; clear BK210; clear HB; have HO_3 := n0_; have BK210 := n1_; have HB := n2_; have BK212 := n3_; have GW212 := n4_; have GE212 := n5_; have NB210_212 := n6_; have NB212_210 := n7_; clear n0_ n1_ n2_ n3_ n4_ n5_ n6_ n7_; clear hb hbox hg; have hnb21 := NB212_210.out; have hnc21 := NB210_212.out; have hcz22_0 : w20.cell? ⟨gb212, 0, none⟩ = some (.int .i64 0) := (blk_cell BK212.out 0).trans rfl; have hcz22_1 : w20.cell? ⟨gb212, 1, none⟩ = some (.int .i64 0) := (blk_cell BK212.out 1).trans rfl; have hcz22_2 : w20.cell? ⟨gb212, 2, none⟩ = some (.int .i64 0) := (blk_cell BK212.out 2).trans rfl; have hcz22_3 : w20.cell? ⟨gb212, 3, none⟩ = some (.int .i64 0) := (blk_cell BK212.out 3).trans rfl; have hcz22_4 : w20.cell? ⟨gb212, 4, none⟩ = some (.int .i64 0) := (blk_cell BK212.out 4).trans rfl; have hcz22_5 : w20.cell? ⟨gb212, 5, none⟩ = some (.int .i64 0) := (blk_cell BK212.out 5).trans rfl; have hfz22_0 := blk_frozen BK212.out 0; have hfz22_1 := blk_frozen BK212.out 1; have hfz22_2 := blk_frozen BK212.out 2; have hfz22_3 := blk_frozen BK212.out 3; have hfz22_4 := blk_frozen BK212.out 4; have hfz22_5 := blk_frozen BK212.out 5))
                            have n0_ : Aside0 (Kd.R k44 44 ((((((w20.setCell ⟨gb212, 0, none⟩ (.int .i64 ((rd_T44 l0 x17_2).f0.f0))).setCell ⟨gb212, 1, none⟩ (.int .i64 ((rd_T44 l0 x17_2).f0.f1))).setCell ⟨gb212, 2, none⟩ (.int .i64 ((rd_T44 l0 x17_2).f0.f2))).setCell ⟨gb212, 3, none⟩ (.int .i64 ((rd_T44 l0 x17_2).f1.f0))).setCell ⟨gb212, 4, none⟩ (.int .i64 ((rd_T44 l0 x17_2).f1.f1))).setCell ⟨gb212, 5, none⟩ (.int .i64 ((rd_T44 l0 x17_2).f1.f2))) w.heap.size (fun k_ => k_ ≠ gb210 ∧ k_ ≠ gb212) u3 x3_1) := ⟨by (with_reducible repeat (first | apply Kd.R_alloc | apply Kd.R_drewN | apply Kd.R_drew)); exact Kd.R_mono (Kd.R_far (p := ⟨gb212, 5, none⟩) (Kd.R_far (p := ⟨gb212, 4, none⟩) (Kd.R_far (p := ⟨gb212, 3, none⟩) (Kd.R_far (p := ⟨gb212, 2, none⟩) (Kd.R_far (p := ⟨gb212, 1, none⟩) (Kd.R_far (p := ⟨gb212, 0, none⟩) (Kd.R_mono HO_3.out (fun k_ hk => (⟨hk, hk.2⟩ : _ ∧ k_ ≠ gb212))) (fun _ hk => hk.2) (.int .i64 ((rd_T44 l0 x17_2).f0.f0))) (fun _ hk => hk.2) (.int .i64 ((rd_T44 l0 x17_2).f0.f1))) (fun _ hk => hk.2) (.int .i64 ((rd_T44 l0 x17_2).f0.f2))) (fun _ hk => hk.2) (.int .i64 ((rd_T44 l0 x17_2).f1.f0))) (fun _ hk => hk.2) (.int .i64 ((rd_T44 l0 x17_2).f1.f1))) (fun _ hk => hk.2) (.int .i64 ((rd_T44 l0 x17_2).f1.f2))) (fun _ hk => ⟨hk.1.1, hk.1.2⟩)⟩
                            have n1_ : Aside0 (((((((w20.setCell ⟨gb212, 0, none⟩ (.int .i64 ((rd_T44 l0 x17_2).f0.f0))).setCell ⟨gb212, 1, none⟩ (.int .i64 ((rd_T44 l0 x17_2).f0.f1))).setCell ⟨gb212, 2, none⟩ (.int .i64 ((rd_T44 l0 x17_2).f0.f2))).setCell ⟨gb212, 3, none⟩ (.int .i64 ((rd_T44 l0 x17_2).f1.f0))).setCell ⟨gb212, 4, none⟩ (.int .i64 ((rd_T44 l0 x17_2).f1.f1))).setCell ⟨gb212, 5, none⟩ (.int .i64 ((rd_T44 l0 x17_2).f1.f2))).heap[gb210]? = some (.cells #[.int .i64 ((rd_T44 l0 x11_1).f0.f0), .int .i64 ((rd_T44 l0 x11_1).f0.f1), .int .i64 ((rd_T44 l0 x11_1).f0.f2), .int .i64 ((rd_T44 l0 x11_1).f1.f0), .int .i64 ((rd_T44 l0 x11_1).f1.f1), .int .i64 ((rd_T44 l0 x11_1).f1.f2)] 44 (0, 0))) := ⟨by (with_reducible repeat (first | refine blk_drewN ?_ _ | refine blk_drew ?_ | refine blk_alloc ?_ _)); refine blk_far ?_ NB210_212.out _; (with_reducible repeat (first | refine blk_drewN ?_ _ | refine blk_drew ?_ | refine blk_alloc ?_ _)); refine blk_far ?_ NB210_212.out _; (with_reducible repeat (first | refine blk_drewN ?_ _ | refine blk_drew ?_ | refine blk_alloc ?_ _)); refine blk_far ?_ NB210_212.out _; (with_reducible repeat (first | refine blk_drewN ?_ _ | refine blk_drew ?_ | refine blk_alloc ?_ _)); refine blk_far ?_ NB210_212.out _; (with_reducible repeat (first | refine blk_drewN ?_ _ | refine blk_drew ?_ | refine blk_alloc ?_ _)); refine blk_far ?_ NB210_212.out _; (with_reducible repeat (first | refine blk_drewN ?_ _ | refine blk_drew ?_ | refine blk_alloc ?_ _)); refine blk_far ?_ NB210_212.out _; (with_reducible repeat (first | refine blk_drewN ?_ _ | refine blk_drew ?_ | refine blk_alloc ?_ _)); exact BK210.out⟩
                            have n2_ : Aside0 (((((((w20.setCell ⟨gb212, 0, none⟩ (.int .i64 ((rd_T44 l0 x17_2).f0.f0))).setCell ⟨gb212, 1, none⟩ (.int .i64 ((rd_T44 l0 x17_2).f0.f1))).setCell ⟨gb212, 2, none⟩ (.int .i64 ((rd_T44 l0 x17_2).f0.f2))).setCell ⟨gb212, 3, none⟩ (.int .i64 ((rd_T44 l0 x17_2).f1.f0))).setCell ⟨gb212, 4, none⟩ (.int .i64 ((rd_T44 l0 x17_2).f1.f1))).setCell ⟨gb212, 5, none⟩ (.int .i64 ((rd_T44 l0 x17_2).f1.f2))).heap[gb212]? = some (.cells #[.int .i64 ((rd_T44 l0 x17_2).f0.f0), .int .i64 ((rd_T44 l0 x17_2).f0.f1), .int .i64 ((rd_T44 l0 x17_2).f0.f2), .int .i64 ((rd_T44 l0 x17_2).f1.f0), .int .i64 ((rd_T44 l0 x17_2).f1.f1), .int .i64 ((rd_T44 l0 x17_2).f1.f2)] 44 (0, 0))) := ⟨by (with_reducible repeat (first | refine blk_drewN ?_ _ | refine blk_drew ?_ | refine blk_alloc ?_ _)); refine blk_put (cs := #[.int .i64 ((rd_T44 l0 x17_2).f0.f0), .int .i64 ((rd_T44 l0 x17_2).f0.f1), .int .i64 ((rd_T44 l0 x17_2).f0.f2), .int .i64 ((rd_T44 l0 x17_2).f1.f0), .int .i64 ((rd_T44 l0 x17_2).f1.f1), .int .i64 0]) ?_ 5 _ rfl; (with_reducible repeat (first | refine blk_drewN ?_ _ | refine blk_drew ?_ | refine blk_alloc ?_ _)); refine blk_put (cs := #[.int .i64 ((rd_T44 l0 x17_2).f0.f0), .int .i64 ((rd_T44 l0 x17_2).f0.f1), .int .i64 ((rd_T44 l0 x17_2).f0.f2), .int .i64 ((rd_T44 l0 x17_2).f1.f0), .int .i64 0, .int .i64 0]) ?_ 4 _ rfl; (with_reducible repeat (first | refine blk_drewN ?_ _ | refine blk_drew ?_ | refine blk_alloc ?_ _)); refine blk_put (cs := #[.int .i64 ((rd_T44 l0 x17_2).f0.f0), .int .i64 ((rd_T44 l0 x17_2).f0.f1), .int .i64 ((rd_T44 l0 x17_2).f0.f2), .int .i64 0, .int .i64 0, .int .i64 0]) ?_ 3 _ rfl; (with_reducible repeat (first | refine blk_drewN ?_ _ | refine blk_drew ?_ | refine blk_alloc ?_ _)); refine blk_put (cs := #[.int .i64 ((rd_T44 l0 x17_2).f0.f0), .int .i64 ((rd_T44 l0 x17_2).f0.f1), .int .i64 0, .int .i64 0, .int .i64 0, .int .i64 0]) ?_ 2 _ rfl; (with_reducible repeat (first | refine blk_drewN ?_ _ | refine blk_drew ?_ | refine blk_alloc ?_ _)); refine blk_put (cs := #[.int .i64 ((rd_T44 l0 x17_2).f0.f0), .int .i64 0, .int .i64 0, .int .i64 0, .int .i64 0, .int .i64 0]) ?_ 1 _ rfl; (with_reducible repeat (first | refine blk_drewN ?_ _ | refine blk_drew ?_ | refine blk_alloc ?_ _)); refine blk_put (cs := #[.int .i64 0, .int .i64 0, .int .i64 0, .int .i64 0, .int .i64 0, .int .i64 0]) ?_ 0 _ rfl; (with_reducible repeat (first | refine blk_drewN ?_ _ | refine blk_drew ?_ | refine blk_alloc ?_ _)); exact BK212.out⟩
                            have n3_ : Aside0 (Below w.heap.size w ((((((w20.setCell ⟨gb212, 0, none⟩ (.int .i64 ((rd_T44 l0 x17_2).f0.f0))).setCell ⟨gb212, 1, none⟩ (.int .i64 ((rd_T44 l0 x17_2).f0.f1))).setCell ⟨gb212, 2, none⟩ (.int .i64 ((rd_T44 l0 x17_2).f0.f2))).setCell ⟨gb212, 3, none⟩ (.int .i64 ((rd_T44 l0 x17_2).f1.f0))).setCell ⟨gb212, 4, none⟩ (.int .i64 ((rd_T44 l0 x17_2).f1.f1))).setCell ⟨gb212, 5, none⟩ (.int .i64 ((rd_T44 l0 x17_2).f1.f2)))) := ⟨by repeat (first | (with_reducible first | exact HB.out | apply below_alloc | apply pw_below_drewN | apply below_drew1 | refine below_set ?_ GE210.out | refine below_set ?_ GE212.out) | exact HB.out)⟩
                            (try clear HO_3)
                            (try clear BK210)
                            (try clear BK212)
                            (try clear HB)
                            generalize ((((((w20.setCell ⟨gb212, 0, none⟩ (.int .i64 ((rd_T44 l0 x17_2).f0.f0))).setCell ⟨gb212, 1, none⟩ (.int .i64 ((rd_T44 l0 x17_2).f0.f1))).setCell ⟨gb212, 2, none⟩ (.int .i64 ((rd_T44 l0 x17_2).f0.f2))).setCell ⟨gb212, 3, none⟩ (.int .i64 ((rd_T44 l0 x17_2).f1.f0))).setCell ⟨gb212, 4, none⟩ (.int .i64 ((rd_T44 l0 x17_2).f1.f1))).setCell ⟨gb212, 5, none⟩ (.int .i64 ((rd_T44 l0 x17_2).f1.f2))) = w23 at n0_ n1_ n2_ n3_ ⊢
                            have HO_3 := n0_
                            have BK210 := n1_
                            have BK212 := n2_
                            have HB := n3_
                            clear n0_ n1_ n2_ n3_
                            have n0_ := Aside0.mk (Kd.R_drew HO_3.out)
                            have n1_ := Aside0.mk (blk_drew BK210.out)
                            have n2_ := Aside0.mk (blk_drew BK212.out)
                            have n3_ := Aside0.mk (below_drew1 HB.out)
                            clear HO_3
                            clear BK210
                            clear BK212
                            clear HB
                            have HO_3 := n0_
                            have BK210 := n1_
                            have BK212 := n2_
                            have HB := n3_
                            clear n0_ n1_ n2_ n3_
                            refine start_ (n := 25) (S := fun w' => w'.cell? ⟨gb212, 0, none⟩ = some (.int .i64 ((rd_T44 l0 x17_2).f0.f0)) ∧ w'.cell? ⟨gb212, 1, none⟩ = some (.int .i64 ((rd_T44 l0 x17_2).f0.f1)) ∧ w'.cell? ⟨gb212, 2, none⟩ = some (.int .i64 ((rd_T44 l0 x17_2).f0.f2)) ∧ w'.cell? ⟨gb212, 3, none⟩ = some (.int .i64 ((rd_T44 l0 x17_2).f1.f0)) ∧ w'.cell? ⟨gb212, 4, none⟩ = some (.int .i64 ((rd_T44 l0 x17_2).f1.f1)) ∧ w'.cell? ⟨gb212, 5, none⟩ = some (.int .i64 ((rd_T44 l0 x17_2).f1.f2)) ∧ w'.cell? ⟨gb210, 0, none⟩ = some (.int .i64 ((rd_T44 l0 x11_1).f0.f0)) ∧ w'.cell? ⟨gb210, 1, none⟩ = some (.int .i64 ((rd_T44 l0 x11_1).f0.f1)) ∧ w'.cell? ⟨gb210, 2, none⟩ = some (.int .i64 ((rd_T44 l0 x11_1).f0.f2)) ∧ w'.cell? ⟨gb210, 3, none⟩ = some (.int .i64 ((rd_T44 l0 x11_1).f1.f0)) ∧ w'.cell? ⟨gb210, 4, none⟩ = some (.int .i64 ((rd_T44 l0 x11_1).f1.f1)) ∧ w'.cell? ⟨gb210, 5, none⟩ = some (.int .i64 ((rd_T44 l0 x11_1).f1.f2))) (ds := []) #[false, false, false, false, false, false, false, false, false, false, false, false, false, false, false, false, false, false, false, false, false, false, false, false, false] (by kernel_rfl) rfl rfl ⟨(blk_cell BK212.out 0).trans rfl, (blk_cell BK212.out 1).trans rfl, (blk_cell BK212.out 2).trans rfl, (blk_cell BK212.out 3).trans rfl, (blk_cell BK212.out 4).trans rfl, (blk_cell BK212.out 5).trans rfl, (blk_cell BK210.out 0).trans rfl, (blk_cell BK210.out 1).trans rfl, (blk_cell BK210.out 2).trans rfl, (blk_cell BK210.out 3).trans rfl, (blk_cell BK210.out 4).trans rfl, (blk_cell BK210.out 5).trans rfl⟩ (fun hHeld => ?_); refine with_tabW glossatorref3_Reduction.tab9 glossatorref3_Reduction.bits9 (fun HT_ HW_ => ?_)
                            generalize w23.drew = w24 at HO_3 BK210 BK212 HB hHeld ⊢
                            refine pure_ (i := 0) (N := some 21) (v := ?_) (a' := ?_) #[true, false, false, false, false, false, false, false, false, false, false, false, false, false, false, false, false, false, false, false, false, false, false, false, false] rfl rfl (any_of HT_.out (by kernel_rfl)) (fun _ _ _ h => h) (Or.inl ⟨by rfl, ?_⟩) ?_ ?_
                            rotate_left
                            · intro w'
                              go_simp
                              with_reducible rfl
                            rotate_left
                            · simp only [Act.put, List.setIfInBounds_toArray, List.set_cons_zero, List.set_cons_succ, i64_w, i32_w]
                              rfl
                            refine pure_ (i := 1) (N := some 22) (v := ?_) (a' := ?_) #[true, true, false, false, false, false, false, false, false, false, false, false, false, false, false, false, false, false, false, false, false, false, false, false, false] rfl rfl (any_of HT_.out (by kernel_rfl)) (fun _ _ _ h => h) (Or.inl ⟨by rfl, ?_⟩) ?_ ?_
                            rotate_left
                            · intro w'
                              go_simp
                              with_reducible rfl
                            rotate_left
                            · simp only [Act.put, List.setIfInBounds_toArray, List.set_cons_zero, List.set_cons_succ, i64_w, i32_w]
                              rfl
                            refine pure_ (i := 2) (N := some 23) (v := ?_) (a' := ?_) #[true, true, true, false, false, false, false, false, false, false, false, false, false, false, false, false, false, false, false, false, false, false, false, false, false] rfl rfl (any_of HT_.out (by kernel_rfl)) (fun _ _ _ h => h) (Or.inl ⟨by rfl, ?_⟩) ?_ ?_
                            rotate_left
                            · intro w'
                              go_simp
                              with_reducible rfl
                            rotate_left
                            · simp only [Act.put, List.setIfInBounds_toArray, List.set_cons_zero, List.set_cons_succ, i64_w, i32_w]
                              rfl
                            refine pure_ (i := 4) (N := some 25) (v := ?_) (a' := ?_) #[true, true, true, false, true, false, false, false, false, false, false, false, false, false, false, false, false, false, false, false, false, false, false, false, false] rfl rfl (any_of HT_.out (by kernel_rfl)) (fun _ _ _ h => h) (Or.inl ⟨by rfl, ?_⟩) ?_ ?_
                            rotate_left
                            · intro w'
                              go_simp
                              with_reducible rfl
                            rotate_left
                            · simp only [Act.put, List.setIfInBounds_toArray, List.set_cons_zero, List.set_cons_succ, i64_w, i32_w]
                              rfl
                            refine take_ (i := 3) (N := some 24) (v := ?_) (a' := ?_) #[true, true, true, true, true, false, false, false, false, false, false, false, false, false, false, false, false, false, false, false, false, false, false, false, false] rfl rfl (take_ofW HT_.out HW_.out (by kernel_rfl)) (fun _ _ _ h => h) (Or.inl ⟨by rfl, ?_⟩) hHeld ?_ ?_
                            rotate_left
                            · rintro w' ⟨s0, s1, s2, s3, s4, s5, s6, s7, s8, s9, s10, s11⟩
                              go_simp
                              with_reducible rfl
                            rotate_left
                            · simp only [Act.put, List.setIfInBounds_toArray, List.set_cons_zero, List.set_cons_succ, i64_w, i32_w]
                              rfl
                            refine take_ (i := 5) (N := some 26) (v := ?_) (a' := ?_) #[true, true, true, true, true, true, false, false, false, false, false, false, false, false, false, false, false, false, false, false, false, false, false, false, false] rfl rfl (take_ofW HT_.out HW_.out (by kernel_rfl)) (fun _ _ _ h => h) (Or.inl ⟨by rfl, ?_⟩) hHeld ?_ ?_
                            rotate_left
                            · rintro w' ⟨s0, s1, s2, s3, s4, s5, s6, s7, s8, s9, s10, s11⟩
                              go_simp
                              with_reducible rfl
                            rotate_left
                            · simp only [Act.put, List.setIfInBounds_toArray, List.set_cons_zero, List.set_cons_succ, i64_w, i32_w]
                              rfl
                            refine pure_ (i := 6) (N := some 27) (v := ?_) (a' := ?_) #[true, true, true, true, true, true, true, false, false, false, false, false, false, false, false, false, false, false, false, false, false, false, false, false, false] rfl rfl (any_of HT_.out (by kernel_rfl)) (fun _ _ _ h => h) (Or.inl ⟨by rfl, ?_⟩) ?_ ?_
                            rotate_left
                            · intro w'
                              go_simp
                              with_reducible rfl
                            rotate_left
                            · simp only [Act.put, List.setIfInBounds_toArray, List.set_cons_zero, List.set_cons_succ, i64_w, i32_w]
                              rfl
                            refine pure_ (i := 7) (N := some 28) (v := ?_) (a' := ?_) #[true, true, true, true, true, true, true, true, false, false, false, false, false, false, false, false, false, false, false, false, false, false, false, false, false] rfl rfl (any_of HT_.out (by kernel_rfl)) (fun _ _ _ h => h) (Or.inl ⟨by rfl, ?_⟩) ?_ ?_
                            rotate_left
                            · intro w'
                              go_simp
                              with_reducible rfl
                            rotate_left
                            · simp only [Act.put, List.setIfInBounds_toArray, List.set_cons_zero, List.set_cons_succ, i64_w, i32_w]
                              rfl
                            refine pure_ (i := 8) (N := some 29) (v := ?_) (a' := ?_) #[true, true, true, true, true, true, true, true, true, false, false, false, false, false, false, false, false, false, false, false, false, false, false, false, false] rfl rfl (any_of HT_.out (by kernel_rfl)) (fun _ _ _ h => h) (Or.inl ⟨by rfl, ?_⟩) ?_ ?_
                            rotate_left
                            · intro w'
                              go_simp
                              with_reducible rfl
                            rotate_left
                            · simp only [Act.put, List.setIfInBounds_toArray, List.set_cons_zero, List.set_cons_succ, i64_w, i32_w]
                              rfl
                            refine pure_ (i := 10) (N := some 31) (v := ?_) (a' := ?_) #[true, true, true, true, true, true, true, true, true, false, true, false, false, false, false, false, false, false, false, false, false, false, false, false, false] rfl rfl (any_of HT_.out (by kernel_rfl)) (fun _ _ _ h => h) (Or.inl ⟨by rfl, ?_⟩) ?_ ?_
                            rotate_left
                            · intro w'
                              go_simp
                              with_reducible rfl
                            rotate_left
                            · simp only [Act.put, List.setIfInBounds_toArray, List.set_cons_zero, List.set_cons_succ, i64_w, i32_w]
                              rfl
                            refine take_ (i := 9) (N := some 30) (v := ?_) (a' := ?_) #[true, true, true, true, true, true, true, true, true, true, true, false, false, false, false, false, false, false, false, false, false, false, false, false, false] rfl rfl (take_ofW HT_.out HW_.out (by kernel_rfl)) (fun _ _ _ h => h) (Or.inl ⟨by rfl, ?_⟩) hHeld ?_ ?_
                            rotate_left
                            · rintro w' ⟨s0, s1, s2, s3, s4, s5, s6, s7, s8, s9, s10, s11⟩
                              go_simp
                              with_reducible rfl
                            rotate_left
                            · simp only [Act.put, List.setIfInBounds_toArray, List.set_cons_zero, List.set_cons_succ, i64_w, i32_w]
                              rfl
                            refine take_ (i := 11) (N := some 32) (v := ?_) (a' := ?_) #[true, true, true, true, true, true, true, true, true, true, true, true, false, false, false, false, false, false, false, false, false, false, false, false, false] rfl rfl (take_ofW HT_.out HW_.out (by kernel_rfl)) (fun _ _ _ h => h) (Or.inl ⟨by rfl, ?_⟩) hHeld ?_ ?_
                            rotate_left
                            · rintro w' ⟨s0, s1, s2, s3, s4, s5, s6, s7, s8, s9, s10, s11⟩
                              go_simp
                              with_reducible rfl
                            rotate_left
                            · simp only [Act.put, List.setIfInBounds_toArray, List.set_cons_zero, List.set_cons_succ, i64_w, i32_w]
                              rfl
                            refine pure_ (i := 12) (N := some 33) (v := ?_) (a' := ?_) #[true, true, true, true, true, true, true, true, true, true, true, true, true, false, false, false, false, false, false, false, false, false, false, false, false] rfl rfl (any_of HT_.out (by kernel_rfl)) (fun _ _ _ h => h) (Or.inl ⟨by rfl, ?_⟩) ?_ ?_
                            rotate_left
                            · intro w'
                              go_simp
                              with_reducible rfl
                            rotate_left
                            · simp only [Act.put, List.setIfInBounds_toArray, List.set_cons_zero, List.set_cons_succ, i64_w, i32_w]
                              rfl
                            refine pure_ (i := 13) (N := some 34) (v := ?_) (a' := ?_) #[true, true, true, true, true, true, true, true, true, true, true, true, true, true, false, false, false, false, false, false, false, false, false, false, false] rfl rfl (any_of HT_.out (by kernel_rfl)) (fun _ _ _ h => h) (Or.inl ⟨by rfl, ?_⟩) ?_ ?_
                            rotate_left
                            · intro w'
                              go_simp
                              with_reducible rfl
                            rotate_left
                            · simp only [Act.put, List.setIfInBounds_toArray, List.set_cons_zero, List.set_cons_succ, i64_w, i32_w]
                              rfl
                            refine pure_ (i := 14) (N := some 35) (v := ?_) (a' := ?_) #[true, true, true, true, true, true, true, true, true, true, true, true, true, true, true, false, false, false, false, false, false, false, false, false, false] rfl rfl (any_of HT_.out (by kernel_rfl)) (fun _ _ _ h => h) (Or.inl ⟨by rfl, ?_⟩) ?_ ?_
                            rotate_left
                            · intro w'
                              go_simp
                              with_reducible rfl
                            rotate_left
                            · simp only [Act.put, List.setIfInBounds_toArray, List.set_cons_zero, List.set_cons_succ, i64_w, i32_w]
                              rfl
                            refine pure_ (i := 15) (N := some 36) (v := ?_) (a' := ?_) #[true, true, true, true, true, true, true, true, true, true, true, true, true, true, true, true, false, false, false, false, false, false, false, false, false] rfl rfl (any_of HT_.out (by kernel_rfl)) (fun _ _ _ h => h) (Or.inl ⟨by rfl, ?_⟩) ?_ ?_
                            rotate_left
                            · intro w'
                              go_simp
                              with_reducible rfl
                            rotate_left
                            · simp only [Act.put, List.setIfInBounds_toArray, List.set_cons_zero, List.set_cons_succ, i64_w, i32_w]
                              rfl
                            refine pure_ (i := 16) (N := some 37) (v := ?_) (a' := ?_) #[true, true, true, true, true, true, true, true, true, true, true, true, true, true, true, true, true, false, false, false, false, false, false, false, false] rfl rfl (any_of HT_.out (by kernel_rfl)) (fun _ _ _ h => h) (Or.inl ⟨by rfl, ?_⟩) ?_ ?_
                            rotate_left
                            · intro w'
                              go_simp
                              with_reducible rfl
                            rotate_left
                            · simp only [Act.put, List.setIfInBounds_toArray, List.set_cons_zero, List.set_cons_succ, i64_w, i32_w]
                              rfl
                            refine pure_ (i := 19) (N := some 40) (v := ?_) (a' := ?_) #[true, true, true, true, true, true, true, true, true, true, true, true, true, true, true, true, true, false, false, true, false, false, false, false, false] rfl rfl (any_of HT_.out (by kernel_rfl)) (fun _ _ _ h => h) (Or.inl ⟨by rfl, ?_⟩) ?_ ?_
                            rotate_left
                            · intro w'
                              go_simp
                              with_reducible rfl
                            rotate_left
                            · simp only [Act.put, List.setIfInBounds_toArray, List.set_cons_zero, List.set_cons_succ, i64_w, i32_w]
                              rfl
                            refine take_ (i := 17) (N := some 38) (v := ?_) (a' := ?_) #[true, true, true, true, true, true, true, true, true, true, true, true, true, true, true, true, true, true, false, true, false, false, false, false, false] rfl rfl (take_ofW HT_.out HW_.out (by kernel_rfl)) (fun _ _ _ h => h) (Or.inl ⟨by rfl, ?_⟩) hHeld ?_ ?_
                            rotate_left
                            · rintro w' ⟨s0, s1, s2, s3, s4, s5, s6, s7, s8, s9, s10, s11⟩
                              go_simp
                              with_reducible rfl
                            rotate_left
                            · simp only [Act.put, List.setIfInBounds_toArray, List.set_cons_zero, List.set_cons_succ, i64_w, i32_w]
                              rfl
                            refine take_ (i := 20) (N := some 41) (v := ?_) (a' := ?_) #[true, true, true, true, true, true, true, true, true, true, true, true, true, true, true, true, true, true, false, true, true, false, false, false, false] rfl rfl (take_ofW HT_.out HW_.out (by kernel_rfl)) (fun _ _ _ h => h) (Or.inl ⟨by rfl, ?_⟩) hHeld ?_ ?_
                            rotate_left
                            · rintro w' ⟨s0, s1, s2, s3, s4, s5, s6, s7, s8, s9, s10, s11⟩
                              go_simp
                              with_reducible rfl
                            rotate_left
                            · simp only [Act.put, List.setIfInBounds_toArray, List.set_cons_zero, List.set_cons_succ, i64_w, i32_w]
                              rfl
                            refine one_ (i := 18) (N := some 39) #[true, true, true, true, true, true, true, true, true, true, true, true, true, true, true, true, true, true, true, true, true, false, false, false, false] rfl rfl (one_of HT_.out (by kernel_rfl)) (by decide) (fun K hK => ?_)
                            refine goes_ Try.func10 (by kernel_rfl) rfl #[.slice (some ad209) l0.length c0, .agg #[.int .i64 ((rd_T44 l0 x17_2).f1.f0), .int .i64 ((rd_T44 l0 x17_2).f1.f1), .int .i64 ((rd_T44 l0 x17_2).f1.f2)]] (by rfl) rfl rfl (by (try simp only [List.map_toArray, List.map_cons, List.map_nil]); first | done | rfl | (simp only [List.length_drop, List.length_take]; rfl)) ?_
                            with_reducible refine (glossatorref3_Reachable.calls k2 _ _ l0 ((rd_T44 l0 x17_2).f1.f0) ((rd_T44 l0 x17_2).f1.f1) ((rd_T44 l0 x17_2).f1.f2) t213 _ ?side1 ?side2 A18.out).mono ?_
                            (case side1 => repeat (first | exact (Kd.C_below HR0.out HB.out) | (with_reducible refine Kd.C_alloc ?_ _) | (with_reducible refine Kd.C_drewN ?_ _) | (with_reducible refine Kd.C_drew ?_)))
                            (case side2 => exact HC0.out)
                            rintro e w25 ⟨v214, rfl, ho0, hb⟩
                            refine ⟨_, rfl, ?_⟩
                            have n0_ := Aside0.mk (Kd.R_below (by (with_reducible repeat (first | apply Kd.R_alloc | apply Kd.R_drewN | apply Kd.R_drew)); exact HO_3.out) hb)
                            have n1_ := Aside0.mk (Kd.R_lower ho0 (below_size (by repeat (first | (with_reducible first | exact HB.out | apply below_alloc | apply pw_below_drewN | apply below_drew1 | refine below_set ?_ GE210.out | refine below_set ?_ GE212.out) | exact HB.out))))
                            have n2_ := Aside0.mk (blk_below (g := gb210) (o := .cells #[.int .i64 ((rd_T44 l0 x11_1).f0.f0), .int .i64 ((rd_T44 l0 x11_1).f0.f1), .int .i64 ((rd_T44 l0 x11_1).f0.f2), .int .i64 ((rd_T44 l0 x11_1).f1.f0), .int .i64 ((rd_T44 l0 x11_1).f1.f1), .int .i64 ((rd_T44 l0 x11_1).f1.f2)] 44 (0, 0)) (by (with_reducible repeat (first | refine blk_drewN ?_ _ | refine blk_drew ?_ | refine blk_alloc ?_ _)); exact BK210.out) hb)
                            have n3_ := Aside0.mk (blk_below (g := gb212) (o := .cells #[.int .i64 ((rd_T44 l0 x17_2).f0.f0), .int .i64 ((rd_T44 l0 x17_2).f0.f1), .int .i64 ((rd_T44 l0 x17_2).f0.f2), .int .i64 ((rd_T44 l0 x17_2).f1.f0), .int .i64 ((rd_T44 l0 x17_2).f1.f1), .int .i64 ((rd_T44 l0 x17_2).f1.f2)] 44 (0, 0)) (by (with_reducible repeat (first | refine blk_drewN ?_ _ | refine blk_drew ?_ | refine blk_alloc ?_ _)); exact BK212.out) hb)
                            have n4_ := Aside0.mk (below_step (by repeat (first | (with_reducible first | exact HB.out | apply below_alloc | apply pw_below_drewN | apply below_drew1 | refine below_set ?_ GE210.out | refine below_set ?_ GE212.out) | exact HB.out)) hb)
                            clear HO_3
                            clear BK210
                            clear BK212
                            clear HB
                            have HO_3 := n0_
                            have HO215 := n1_
                            have BK210 := n2_
                            have BK212 := n3_
                            have HB := n4_
                            clear n0_ n1_ n2_ n3_ n4_
                            (try clear hb)
                            (try clear hb2)
                            (try clear hk)
                            (try clear hi)
                            (try clear ho0)
                            obtain ⟨Ao26, co26, eo26⟩ := Kd.R_slice HO215.out
                            (first | subst eo26 | (injection eo26 with f1_ f2_ f3_; have f4_ := f1_.symm; have f5_ := f3_.symm; clear f1_ f2_ f3_; subst f4_; subst f5_))
                            refine hK.out _ _ ⟨(blk_cell BK212.out 0).trans rfl, (blk_cell BK212.out 1).trans rfl, (blk_cell BK212.out 2).trans rfl, (blk_cell BK212.out 3).trans rfl, (blk_cell BK212.out 4).trans rfl, (blk_cell BK212.out 5).trans rfl, (blk_cell BK210.out 0).trans rfl, (blk_cell BK210.out 1).trans rfl, (blk_cell BK210.out 2).trans rfl, (blk_cell BK210.out 3).trans rfl, (blk_cell BK210.out 4).trans rfl, (blk_cell BK210.out 5).trans rfl⟩ (fun hHeld => ?_)
                            clear hK K
                            refine norm_ (a' := ?_) ?_ ?_
                            rotate_left
                            · show Act.put _ (some 39) _ = _
                              simp only [Act.put, List.setIfInBounds_toArray, List.set_cons_zero, List.set_cons_succ, i64_w, i32_w]
                              rfl
                            refine one_ (i := 21) (N := some 42) #[true, true, true, true, true, true, true, true, true, true, true, true, true, true, true, true, true, true, true, true, true, true, false, false, false] rfl rfl (one_of HT_.out (by kernel_rfl)) (by decide) (fun K hK => ?_)
                            refine goes_ Try.func23 (by kernel_rfl) rfl #[.slice Ao26 t213.length co26, .agg #[.int .i64 ((rd_T44 l0 x11_1).f1.f0), .int .i64 ((rd_T44 l0 x11_1).f1.f1), .int .i64 ((rd_T44 l0 x11_1).f1.f2)]] (by rfl) rfl rfl (by (try simp only [List.map_toArray, List.map_cons, List.map_nil]); first | done | rfl | (simp only [List.length_drop, List.length_take]; rfl)) ?_
                            with_reducible refine (api_QKey_23.calls k2 _ _ t213 ((rd_T44 l0 x11_1).f1.f0) ((rd_T44 l0 x11_1).f1.f1) ((rd_T44 l0 x11_1).f1.f2) t216 _ ?side1 ?side2 A19.out).mono ?_
                            (case side1 => repeat (first | exact (Kd.R_reads' HO215.out).2.2 | (with_reducible refine Kd.C_alloc ?_ _) | (with_reducible refine Kd.C_drewN ?_ _) | (with_reducible refine Kd.C_drew ?_)))
                            (case side2 => exact (Kd.R_reads' HO215.out).2.1)
                            rintro e w27 ⟨rfl, hb⟩
                            refine ⟨_, rfl, ?_⟩
                            have n0_ := Aside0.mk (Kd.R_below (by (with_reducible repeat (first | apply Kd.R_alloc | apply Kd.R_drewN | apply Kd.R_drew)); exact HO_3.out) hb)
                            have n1_ := Aside0.mk (Kd.R_below (by (with_reducible repeat (first | apply Kd.R_alloc | apply Kd.R_drewN | apply Kd.R_drew)); exact HO215.out) hb)
                            have n2_ := Aside0.mk (blk_below (g := gb210) (o := .cells #[.int .i64 ((rd_T44 l0 x11_1).f0.f0), .int .i64 ((rd_T44 l0 x11_1).f0.f1), .int .i64 ((rd_T44 l0 x11_1).f0.f2), .int .i64 ((rd_T44 l0 x11_1).f1.f0), .int .i64 ((rd_T44 l0 x11_1).f1.f1), .int .i64 ((rd_T44 l0 x11_1).f1.f2)] 44 (0, 0)) (by (with_reducible repeat (first | refine blk_drewN ?_ _ | refine blk_drew ?_ | refine blk_alloc ?_ _)); exact BK210.out) hb)
                            have n3_ := Aside0.mk (blk_below (g := gb212) (o := .cells #[.int .i64 ((rd_T44 l0 x17_2).f0.f0), .int .i64 ((rd_T44 l0 x17_2).f0.f1), .int .i64 ((rd_T44 l0 x17_2).f0.f2), .int .i64 ((rd_T44 l0 x17_2).f1.f0), .int .i64 ((rd_T44 l0 x17_2).f1.f1), .int .i64 ((rd_T44 l0 x17_2).f1.f2)] 44 (0, 0)) (by (with_reducible repeat (first | refine blk_drewN ?_ _ | refine blk_drew ?_ | refine blk_alloc ?_ _)); exact BK212.out) hb)
                            have n4_ := Aside0.mk (below_step (by repeat (first | (with_reducible first | exact HB.out | apply below_alloc | apply pw_below_drewN | apply below_drew1 | refine below_set ?_ GE210.out | refine below_set ?_ GE212.out) | exact HB.out)) hb)
                            clear HO_3
                            clear HO215
                            clear BK210
                            clear BK212
                            clear HB
                            have HO_3 := n0_
                            have HO215 := n1_
                            have BK210 := n2_
                            have BK212 := n3_
                            have HB := n4_
                            clear n0_ n1_ n2_ n3_ n4_
                            (try clear hb)
                            (try clear hb2)
                            (try clear hk)
                            (try clear hi)
                            refine hK.out _ _ ⟨(blk_cell BK212.out 0).trans rfl, (blk_cell BK212.out 1).trans rfl, (blk_cell BK212.out 2).trans rfl, (blk_cell BK212.out 3).trans rfl, (blk_cell BK212.out 4).trans rfl, (blk_cell BK212.out 5).trans rfl, (blk_cell BK210.out 0).trans rfl, (blk_cell BK210.out 1).trans rfl, (blk_cell BK210.out 2).trans rfl, (blk_cell BK210.out 3).trans rfl, (blk_cell BK210.out 4).trans rfl, (blk_cell BK210.out 5).trans rfl⟩ (fun hHeld => ?_)
                            clear hK K
                            refine norm_ (a' := ?_) ?_ ?_
                            rotate_left
                            · show Act.put _ (some 42) _ = _
                              simp only [Act.put, List.setIfInBounds_toArray, List.set_cons_zero, List.set_cons_succ, i64_w, i32_w]
                              rfl
                            refine pure_ (i := 22) (N := some 43) (v := ?_) (a' := ?_) #[true, true, true, true, true, true, true, true, true, true, true, true, true, true, true, true, true, true, true, true, true, true, true, false, false] rfl rfl (any_of HT_.out (by kernel_rfl)) (fun _ _ _ h => h) (Or.inl ⟨by rfl, ?_⟩) ?_ ?_
                            rotate_left
                            · intro w'
                              go_simp
                              with_reducible rfl
                            rotate_left
                            · simp only [Act.put, List.setIfInBounds_toArray, List.set_cons_zero, List.set_cons_succ, i64_w, i32_w]
                              rfl
                            refine pure_ (i := 23) (N := some 44) (v := ?_) (a' := ?_) #[true, true, true, true, true, true, true, true, true, true, true, true, true, true, true, true, true, true, true, true, true, true, true, true, false] rfl rfl (any_of HT_.out (by kernel_rfl)) (fun _ _ _ h => h) (Or.inl ⟨by rfl, ?_⟩) ?_ ?_
                            rotate_left
                            · intro w'
                              go_simp
                              with_reducible rfl
                            rotate_left
                            · simp only [Act.put, List.setIfInBounds_toArray, List.set_cons_zero, List.set_cons_succ, i64_w, i32_w]
                              rfl
                            refine pure_ (i := 24) (N := some 6) (v := ?_) (a' := ?_) #[true, true, true, true, true, true, true, true, true, true, true, true, true, true, true, true, true, true, true, true, true, true, true, true, true] rfl rfl (any_of HT_.out (by kernel_rfl)) (fun _ _ _ h => h) (Or.inl ⟨by rfl, ?_⟩) ?_ ?_
                            rotate_left
                            · intro w'
                              go_simp
                              with_reducible rfl
                            rotate_left
                            · simp only [Act.put, List.setIfInBounds_toArray, List.set_cons_zero, List.set_cons_succ, i64_w, i32_w]
                              rfl
                            refine done_ (done_of HT_.out (by kernel_rfl)) ?_
                            try go_wp2
                            go_roundg k2
                            case measure => have := HK1.out; have := HK2.out; omega
                            case rel => exact ⟨(t216), (wrap64 (x17_2 + 1)), (by first | rfl | (simp; done) | (simp [*]; done) | (simp [isEmpty_bne]; done)), (by first | rfl | (simp; done) | (simp [*]; done) | (simp [isEmpty_bne]; done)), H', ⟨by have := HK1.out; have := HK2.out; omega⟩, ⟨by (with_reducible repeat (first | apply Kd.R_alloc | apply Kd.R_drewN | apply Kd.R_drew)); exact Kd.R_mono HO_3.out (fun _ hk => hk.1)⟩, ⟨by (with_reducible repeat (first | refine blk_drewN ?_ _ | refine blk_drew ?_ | refine blk_alloc ?_ _)); exact BK210.out⟩, ⟨by repeat (first | (with_reducible first | exact HB.out | apply below_alloc | apply pw_below_drewN | apply below_drew1 | refine below_set ?_ GE210.out | refine below_set ?_ GE212.out) | exact HB.out)⟩⟩
                          · rw [if_neg c17] at H
                            have c17b0 : (!(((rd_T44 l0 x17_2).f1.f0) == ((rd_T44 l0 x11_1).f1.f0)) || (!(((rd_T44 l0 x17_2).f1.f1) == ((rd_T44 l0 x11_1).f1.f1)) || (!(((rd_T44 l0 x17_2).f1.f2) == ((rd_T44 l0 x11_1).f1.f2))))) = false := by simpa using c17
                            clear c17
                            have H' := Aside0.mk H
                            clear H
                            have p211 : 0 ≤ (x17_2 : Int) := of_decide_eq_true (by first | (with_reducible assumption) | assumption)
                            have q211 : x17_2 < (l0.length : Int) := of_decide_eq_true (by first | (with_reducible assumption) | assumption)
                            obtain ⟨ad211, e211, hx211_0, hx211_1, hx211_2, hx211_3, hx211_4, hx211_5⟩ := at_T44 HR0.out x17_2 p211 q211
                            obtain rfl : ad209 = ad211 := (by injection e211)
                            replace hx211_0 := (HB.out.cell (World.block_lt_of_cell? w _ hx211_0)).trans hx211_0
                            replace hx211_1 := (HB.out.cell (World.block_lt_of_cell? w _ hx211_1)).trans hx211_1
                            replace hx211_2 := (HB.out.cell (World.block_lt_of_cell? w _ hx211_2)).trans hx211_2
                            replace hx211_3 := (HB.out.cell (World.block_lt_of_cell? w _ hx211_3)).trans hx211_3
                            replace hx211_4 := (HB.out.cell (World.block_lt_of_cell? w _ hx211_4)).trans hx211_4
                            replace hx211_5 := (HB.out.cell (World.block_lt_of_cell? w _ hx211_5)).trans hx211_5
                            replace p211 := eq_true p211
                            replace q211 := eq_true q211
                            try go_wp2_with (first | ((with_reducible refine gate_dst (N := 8) rfl ?_); refine box_event ?hg (N := 8) ?hd (cs := #[.int .i64 0, .int .i64 0, .int .i64 0, .int .i64 0, .int .i64 0, .int .i64 0]) (t := 44) ?hr ?_; (case hd => rfl); (case hg => rfl); (case hr => first | (go_simp; done) | (go_simp; rfl)); intro gb212 hg w28 hbox hb; have n0_ := Aside0.mk (Kd.R_below (Kd.R_elderB (by (with_reducible repeat (first | apply Kd.R_alloc | apply Kd.R_drewN | apply Kd.R_drew)); exact HO_3.out) gb212 (Nat.le_of_eq hg.symm)) hb); have n1_ := Aside0.mk (blk_below (g := gb210) (o := .cells #[.int .i64 ((rd_T44 l0 x11_1).f0.f0), .int .i64 ((rd_T44 l0 x11_1).f0.f1), .int .i64 ((rd_T44 l0 x11_1).f0.f2), .int .i64 ((rd_T44 l0 x11_1).f1.f0), .int .i64 ((rd_T44 l0 x11_1).f1.f1), .int .i64 ((rd_T44 l0 x11_1).f1.f2)] 44 (0, 0)) (by (with_reducible repeat (first | refine blk_drewN ?_ _ | refine blk_drew ?_ | refine blk_alloc ?_ _)); exact BK210.out) hb); have n2_ := Aside0.mk (below_step (by repeat (first | (with_reducible first | exact HB.out | apply below_alloc | apply pw_below_drewN | apply below_drew1 | refine below_set ?_ GE210.out) | exact HB.out)) hb); have n3_ := Aside0.mk (hbox); have n4_ := Aside0.mk ((by rw [hg]; exact (below_size (by repeat (first | (with_reducible first | exact HB.out | apply below_alloc | apply pw_below_drewN | apply below_drew1 | refine below_set ?_ GE210.out) | exact HB.out))) : w.heap.size ≤ gb212)); have n5_ := Aside0.mk ((by rw [hg]; exact (below_size (by repeat (first | (with_reducible first | exact HB.out | apply below_alloc | apply pw_below_drewN | apply below_drew1 | refine below_set ?_ GE210.out) | exact HB.out))) : w.heap.size ≤ gb212)); have n6_ := Aside0.mk ((by rw [hg]; exact Nat.ne_of_lt (blk_lt (g := gb210) (o := .cells #[.int .i64 ((rd_T44 l0 x11_1).f0.f0), .int .i64 ((rd_T44 l0 x11_1).f0.f1), .int .i64 ((rd_T44 l0 x11_1).f0.f2), .int .i64 ((rd_T44 l0 x11_1).f1.f0), .int .i64 ((rd_T44 l0 x11_1).f1.f1), .int .i64 ((rd_T44 l0 x11_1).f1.f2)] 44 (0, 0)) (by (with_reducible repeat (first | refine blk_drewN ?_ _ | refine blk_drew ?_ | refine blk_alloc ?_ _)); exact BK210.out)) : gb210 ≠ gb212)); have n7_ := Aside0.mk ((by rw [hg]; exact Nat.ne_of_gt (blk_lt (g := gb210) (o := .cells #[.int .i64 ((rd_T44 l0 x11_1).f0.f0), .int .i64 ((rd_T44 l0 x11_1).f0.f1), .int .i64 ((rd_T44 l0 x11_1).f0.f2), .int .i64 ((rd_T44 l0 x11_1).f1.f0), .int .i64 ((rd_T44 l0 x11_1).f1.f1), .int .i64 ((rd_T44 l0 x11_1).f1.f2)] 44 (0, 0)) (by (with_reducible repeat (first | refine blk_drewN ?_ _ | refine blk_drew ?_ | refine blk_alloc ?_ _)); exact BK210.out)) : gb212 ≠ gb210)); clear HO_3; clear BK210; clear HB; have HO_3 := n0_; have BK210 := n1_; have HB := n2_; have BK212 := n3_; have GW212 := n4_; have GE212 := n5_; have NB210_212 := n6_; have NB212_210 := n7_; clear n0_ n1_ n2_ n3_ n4_ n5_ n6_ n7_; clear hb hbox hg; have hnb29 := NB212_210.out; have hnc29 := NB210_212.out; have hcz30_0 : w28.cell? ⟨gb212, 0, none⟩ = some (.int .i64 0) := (blk_cell BK212.out 0).trans rfl; have hcz30_1 : w28.cell? ⟨gb212, 1, none⟩ = some (.int .i64 0) := (blk_cell BK212.out 1).trans rfl; have hcz30_2 : w28.cell? ⟨gb212, 2, none⟩ = some (.int .i64 0) := (blk_cell BK212.out 2).trans rfl; have hcz30_3 : w28.cell? ⟨gb212, 3, none⟩ = some (.int .i64 0) := (blk_cell BK212.out 3).trans rfl; have hcz30_4 : w28.cell? ⟨gb212, 4, none⟩ = some (.int .i64 0) := (blk_cell BK212.out 4).trans rfl; have hcz30_5 : w28.cell? ⟨gb212, 5, none⟩ = some (.int .i64 0) := (blk_cell BK212.out 5).trans rfl; have hfz30_0 := blk_frozen BK212.out 0; have hfz30_1 := blk_frozen BK212.out 1; have hfz30_2 := blk_frozen BK212.out 2; have hfz30_3 := blk_frozen BK212.out 3; have hfz30_4 := blk_frozen BK212.out 4; have hfz30_5 := blk_frozen BK212.out 5))
                            have n0_ : Aside0 (Kd.R k44 44 ((((((w28.setCell ⟨gb212, 0, none⟩ (.int .i64 ((rd_T44 l0 x17_2).f0.f0))).setCell ⟨gb212, 1, none⟩ (.int .i64 ((rd_T44 l0 x17_2).f0.f1))).setCell ⟨gb212, 2, none⟩ (.int .i64 ((rd_T44 l0 x17_2).f0.f2))).setCell ⟨gb212, 3, none⟩ (.int .i64 ((rd_T44 l0 x17_2).f1.f0))).setCell ⟨gb212, 4, none⟩ (.int .i64 ((rd_T44 l0 x17_2).f1.f1))).setCell ⟨gb212, 5, none⟩ (.int .i64 ((rd_T44 l0 x17_2).f1.f2))) w.heap.size (fun k_ => k_ ≠ gb210 ∧ k_ ≠ gb212) u3 x3_1) := ⟨by (with_reducible repeat (first | apply Kd.R_alloc | apply Kd.R_drewN | apply Kd.R_drew)); exact Kd.R_mono (Kd.R_far (p := ⟨gb212, 5, none⟩) (Kd.R_far (p := ⟨gb212, 4, none⟩) (Kd.R_far (p := ⟨gb212, 3, none⟩) (Kd.R_far (p := ⟨gb212, 2, none⟩) (Kd.R_far (p := ⟨gb212, 1, none⟩) (Kd.R_far (p := ⟨gb212, 0, none⟩) (Kd.R_mono HO_3.out (fun k_ hk => (⟨hk, hk.2⟩ : _ ∧ k_ ≠ gb212))) (fun _ hk => hk.2) (.int .i64 ((rd_T44 l0 x17_2).f0.f0))) (fun _ hk => hk.2) (.int .i64 ((rd_T44 l0 x17_2).f0.f1))) (fun _ hk => hk.2) (.int .i64 ((rd_T44 l0 x17_2).f0.f2))) (fun _ hk => hk.2) (.int .i64 ((rd_T44 l0 x17_2).f1.f0))) (fun _ hk => hk.2) (.int .i64 ((rd_T44 l0 x17_2).f1.f1))) (fun _ hk => hk.2) (.int .i64 ((rd_T44 l0 x17_2).f1.f2))) (fun _ hk => ⟨hk.1.1, hk.1.2⟩)⟩
                            have n1_ : Aside0 (((((((w28.setCell ⟨gb212, 0, none⟩ (.int .i64 ((rd_T44 l0 x17_2).f0.f0))).setCell ⟨gb212, 1, none⟩ (.int .i64 ((rd_T44 l0 x17_2).f0.f1))).setCell ⟨gb212, 2, none⟩ (.int .i64 ((rd_T44 l0 x17_2).f0.f2))).setCell ⟨gb212, 3, none⟩ (.int .i64 ((rd_T44 l0 x17_2).f1.f0))).setCell ⟨gb212, 4, none⟩ (.int .i64 ((rd_T44 l0 x17_2).f1.f1))).setCell ⟨gb212, 5, none⟩ (.int .i64 ((rd_T44 l0 x17_2).f1.f2))).heap[gb210]? = some (.cells #[.int .i64 ((rd_T44 l0 x11_1).f0.f0), .int .i64 ((rd_T44 l0 x11_1).f0.f1), .int .i64 ((rd_T44 l0 x11_1).f0.f2), .int .i64 ((rd_T44 l0 x11_1).f1.f0), .int .i64 ((rd_T44 l0 x11_1).f1.f1), .int .i64 ((rd_T44 l0 x11_1).f1.f2)] 44 (0, 0))) := ⟨by (with_reducible repeat (first | refine blk_drewN ?_ _ | refine blk_drew ?_ | refine blk_alloc ?_ _)); refine blk_far ?_ NB210_212.out _; (with_reducible repeat (first | refine blk_drewN ?_ _ | refine blk_drew ?_ | refine blk_alloc ?_ _)); refine blk_far ?_ NB210_212.out _; (with_reducible repeat (first | refine blk_drewN ?_ _ | refine blk_drew ?_ | refine blk_alloc ?_ _)); refine blk_far ?_ NB210_212.out _; (with_reducible repeat (first | refine blk_drewN ?_ _ | refine blk_drew ?_ | refine blk_alloc ?_ _)); refine blk_far ?_ NB210_212.out _; (with_reducible repeat (first | refine blk_drewN ?_ _ | refine blk_drew ?_ | refine blk_alloc ?_ _)); refine blk_far ?_ NB210_212.out _; (with_reducible repeat (first | refine blk_drewN ?_ _ | refine blk_drew ?_ | refine blk_alloc ?_ _)); refine blk_far ?_ NB210_212.out _; (with_reducible repeat (first | refine blk_drewN ?_ _ | refine blk_drew ?_ | refine blk_alloc ?_ _)); exact BK210.out⟩
                            have n2_ : Aside0 (((((((w28.setCell ⟨gb212, 0, none⟩ (.int .i64 ((rd_T44 l0 x17_2).f0.f0))).setCell ⟨gb212, 1, none⟩ (.int .i64 ((rd_T44 l0 x17_2).f0.f1))).setCell ⟨gb212, 2, none⟩ (.int .i64 ((rd_T44 l0 x17_2).f0.f2))).setCell ⟨gb212, 3, none⟩ (.int .i64 ((rd_T44 l0 x17_2).f1.f0))).setCell ⟨gb212, 4, none⟩ (.int .i64 ((rd_T44 l0 x17_2).f1.f1))).setCell ⟨gb212, 5, none⟩ (.int .i64 ((rd_T44 l0 x17_2).f1.f2))).heap[gb212]? = some (.cells #[.int .i64 ((rd_T44 l0 x17_2).f0.f0), .int .i64 ((rd_T44 l0 x17_2).f0.f1), .int .i64 ((rd_T44 l0 x17_2).f0.f2), .int .i64 ((rd_T44 l0 x17_2).f1.f0), .int .i64 ((rd_T44 l0 x17_2).f1.f1), .int .i64 ((rd_T44 l0 x17_2).f1.f2)] 44 (0, 0))) := ⟨by (with_reducible repeat (first | refine blk_drewN ?_ _ | refine blk_drew ?_ | refine blk_alloc ?_ _)); refine blk_put (cs := #[.int .i64 ((rd_T44 l0 x17_2).f0.f0), .int .i64 ((rd_T44 l0 x17_2).f0.f1), .int .i64 ((rd_T44 l0 x17_2).f0.f2), .int .i64 ((rd_T44 l0 x17_2).f1.f0), .int .i64 ((rd_T44 l0 x17_2).f1.f1), .int .i64 0]) ?_ 5 _ rfl; (with_reducible repeat (first | refine blk_drewN ?_ _ | refine blk_drew ?_ | refine blk_alloc ?_ _)); refine blk_put (cs := #[.int .i64 ((rd_T44 l0 x17_2).f0.f0), .int .i64 ((rd_T44 l0 x17_2).f0.f1), .int .i64 ((rd_T44 l0 x17_2).f0.f2), .int .i64 ((rd_T44 l0 x17_2).f1.f0), .int .i64 0, .int .i64 0]) ?_ 4 _ rfl; (with_reducible repeat (first | refine blk_drewN ?_ _ | refine blk_drew ?_ | refine blk_alloc ?_ _)); refine blk_put (cs := #[.int .i64 ((rd_T44 l0 x17_2).f0.f0), .int .i64 ((rd_T44 l0 x17_2).f0.f1), .int .i64 ((rd_T44 l0 x17_2).f0.f2), .int .i64 0, .int .i64 0, .int .i64 0]) ?_ 3 _ rfl; (with_reducible repeat (first | refine blk_drewN ?_ _ | refine blk_drew ?_ | refine blk_alloc ?_ _)); refine blk_put (cs := #[.int .i64 ((rd_T44 l0 x17_2).f0.f0), .int .i64 ((rd_T44 l0 x17_2).f0.f1), .int .i64 0, .int .i64 0, .int .i64 0, .int .i64 0]) ?_ 2 _ rfl; (with_reducible repeat (first | refine blk_drewN ?_ _ | refine blk_drew ?_ | refine blk_alloc ?_ _)); refine blk_put (cs := #[.int .i64 ((rd_T44 l0 x17_2).f0.f0), .int .i64 0, .int .i64 0, .int .i64 0, .int .i64 0, .int .i64 0]) ?_ 1 _ rfl; (with_reducible repeat (first | refine blk_drewN ?_ _ | refine blk_drew ?_ | refine blk_alloc ?_ _)); refine blk_put (cs := #[.int .i64 0, .int .i64 0, .int .i64 0, .int .i64 0, .int .i64 0, .int .i64 0]) ?_ 0 _ rfl; (with_reducible repeat (first | refine blk_drewN ?_ _ | refine blk_drew ?_ | refine blk_alloc ?_ _)); exact BK212.out⟩
                            have n3_ : Aside0 (Below w.heap.size w ((((((w28.setCell ⟨gb212, 0, none⟩ (.int .i64 ((rd_T44 l0 x17_2).f0.f0))).setCell ⟨gb212, 1, none⟩ (.int .i64 ((rd_T44 l0 x17_2).f0.f1))).setCell ⟨gb212, 2, none⟩ (.int .i64 ((rd_T44 l0 x17_2).f0.f2))).setCell ⟨gb212, 3, none⟩ (.int .i64 ((rd_T44 l0 x17_2).f1.f0))).setCell ⟨gb212, 4, none⟩ (.int .i64 ((rd_T44 l0 x17_2).f1.f1))).setCell ⟨gb212, 5, none⟩ (.int .i64 ((rd_T44 l0 x17_2).f1.f2)))) := ⟨by repeat (first | (with_reducible first | exact HB.out | apply below_alloc | apply pw_below_drewN | apply below_drew1 | refine below_set ?_ GE210.out | refine below_set ?_ GE212.out) | exact HB.out)⟩
                            (try clear HO_3)
                            (try clear BK210)
                            (try clear BK212)
                            (try clear HB)
                            generalize ((((((w28.setCell ⟨gb212, 0, none⟩ (.int .i64 ((rd_T44 l0 x17_2).f0.f0))).setCell ⟨gb212, 1, none⟩ (.int .i64 ((rd_T44 l0 x17_2).f0.f1))).setCell ⟨gb212, 2, none⟩ (.int .i64 ((rd_T44 l0 x17_2).f0.f2))).setCell ⟨gb212, 3, none⟩ (.int .i64 ((rd_T44 l0 x17_2).f1.f0))).setCell ⟨gb212, 4, none⟩ (.int .i64 ((rd_T44 l0 x17_2).f1.f1))).setCell ⟨gb212, 5, none⟩ (.int .i64 ((rd_T44 l0 x17_2).f1.f2))) = w31 at n0_ n1_ n2_ n3_ ⊢
                            have HO_3 := n0_
                            have BK210 := n1_
                            have BK212 := n2_
                            have HB := n3_
                            clear n0_ n1_ n2_ n3_
                            have n0_ := Aside0.mk (Kd.R_drew HO_3.out)
                            have n1_ := Aside0.mk (blk_drew BK210.out)
                            have n2_ := Aside0.mk (blk_drew BK212.out)
                            have n3_ := Aside0.mk (below_drew1 HB.out)
                            clear HO_3
                            clear BK210
                            clear BK212
                            clear HB
                            have HO_3 := n0_
                            have BK210 := n1_
                            have BK212 := n2_
                            have HB := n3_
                            clear n0_ n1_ n2_ n3_
                            refine start_ (n := 25) (S := fun w' => w'.cell? ⟨gb212, 0, none⟩ = some (.int .i64 ((rd_T44 l0 x17_2).f0.f0)) ∧ w'.cell? ⟨gb212, 1, none⟩ = some (.int .i64 ((rd_T44 l0 x17_2).f0.f1)) ∧ w'.cell? ⟨gb212, 2, none⟩ = some (.int .i64 ((rd_T44 l0 x17_2).f0.f2)) ∧ w'.cell? ⟨gb212, 3, none⟩ = some (.int .i64 ((rd_T44 l0 x17_2).f1.f0)) ∧ w'.cell? ⟨gb212, 4, none⟩ = some (.int .i64 ((rd_T44 l0 x17_2).f1.f1)) ∧ w'.cell? ⟨gb212, 5, none⟩ = some (.int .i64 ((rd_T44 l0 x17_2).f1.f2)) ∧ w'.cell? ⟨gb210, 0, none⟩ = some (.int .i64 ((rd_T44 l0 x11_1).f0.f0)) ∧ w'.cell? ⟨gb210, 1, none⟩ = some (.int .i64 ((rd_T44 l0 x11_1).f0.f1)) ∧ w'.cell? ⟨gb210, 2, none⟩ = some (.int .i64 ((rd_T44 l0 x11_1).f0.f2)) ∧ w'.cell? ⟨gb210, 3, none⟩ = some (.int .i64 ((rd_T44 l0 x11_1).f1.f0)) ∧ w'.cell? ⟨gb210, 4, none⟩ = some (.int .i64 ((rd_T44 l0 x11_1).f1.f1)) ∧ w'.cell? ⟨gb210, 5, none⟩ = some (.int .i64 ((rd_T44 l0 x11_1).f1.f2))) (ds := []) #[false, false, false, false, false, false, false, false, false, false, false, false, false, false, false, false, false, false, false, false, false, false, false, false, false] (by kernel_rfl) rfl rfl ⟨(blk_cell BK212.out 0).trans rfl, (blk_cell BK212.out 1).trans rfl, (blk_cell BK212.out 2).trans rfl, (blk_cell BK212.out 3).trans rfl, (blk_cell BK212.out 4).trans rfl, (blk_cell BK212.out 5).trans rfl, (blk_cell BK210.out 0).trans rfl, (blk_cell BK210.out 1).trans rfl, (blk_cell BK210.out 2).trans rfl, (blk_cell BK210.out 3).trans rfl, (blk_cell BK210.out 4).trans rfl, (blk_cell BK210.out 5).trans rfl⟩ (fun hHeld => ?_); refine with_tabW glossatorref3_Reduction.tab9 glossatorref3_Reduction.bits9 (fun HT_ HW_ => ?_)
                            generalize w31.drew = w32 at HO_3 BK210 BK212 HB hHeld ⊢
                            refine pure_ (i := 0) (N := some 21) (v := ?_) (a' := ?_) #[true, false, false, false, false, false, false, false, false, false, false, false, false, false, false, false, false, false, false, false, false, false, false, false, false] rfl rfl (any_of HT_.out (by kernel_rfl)) (fun _ _ _ h => h) (Or.inl ⟨by rfl, ?_⟩) ?_ ?_
                            rotate_left
                            · intro w'
                              go_simp
                              with_reducible rfl
                            rotate_left
                            · simp only [Act.put, List.setIfInBounds_toArray, List.set_cons_zero, List.set_cons_succ, i64_w, i32_w]
                              rfl
                            refine pure_ (i := 1) (N := some 22) (v := ?_) (a' := ?_) #[true, true, false, false, false, false, false, false, false, false, false, false, false, false, false, false, false, false, false, false, false, false, false, false, false] rfl rfl (any_of HT_.out (by kernel_rfl)) (fun _ _ _ h => h) (Or.inl ⟨by rfl, ?_⟩) ?_ ?_
                            rotate_left
                            · intro w'
                              go_simp
                              with_reducible rfl
                            rotate_left
                            · simp only [Act.put, List.setIfInBounds_toArray, List.set_cons_zero, List.set_cons_succ, i64_w, i32_w]
                              rfl
                            refine pure_ (i := 2) (N := some 23) (v := ?_) (a' := ?_) #[true, true, true, false, false, false, false, false, false, false, false, false, false, false, false, false, false, false, false, false, false, false, false, false, false] rfl rfl (any_of HT_.out (by kernel_rfl)) (fun _ _ _ h => h) (Or.inl ⟨by rfl, ?_⟩) ?_ ?_
                            rotate_left
                            · intro w'
                              go_simp
                              with_reducible rfl
                            rotate_left
                            · simp only [Act.put, List.setIfInBounds_toArray, List.set_cons_zero, List.set_cons_succ, i64_w, i32_w]
                              rfl
                            refine pure_ (i := 4) (N := some 25) (v := ?_) (a' := ?_) #[true, true, true, false, true, false, false, false, false, false, false, false, false, false, false, false, false, false, false, false, false, false, false, false, false] rfl rfl (any_of HT_.out (by kernel_rfl)) (fun _ _ _ h => h) (Or.inl ⟨by rfl, ?_⟩) ?_ ?_
                            rotate_left
                            · intro w'
                              go_simp
                              with_reducible rfl
                            rotate_left
                            · simp only [Act.put, List.setIfInBounds_toArray, List.set_cons_zero, List.set_cons_succ, i64_w, i32_w]
                              rfl
                            refine take_ (i := 3) (N := some 24) (v := ?_) (a' := ?_) #[true, true, true, true, true, false, false, false, false, false, false, false, false, false, false, false, false, false, false, false, false, false, false, false, false] rfl rfl (take_ofW HT_.out HW_.out (by kernel_rfl)) (fun _ _ _ h => h) (Or.inl ⟨by rfl, ?_⟩) hHeld ?_ ?_
                            rotate_left
                            · rintro w' ⟨s0, s1, s2, s3, s4, s5, s6, s7, s8, s9, s10, s11⟩
                              go_simp
                              with_reducible rfl
                            rotate_left
                            · simp only [Act.put, List.setIfInBounds_toArray, List.set_cons_zero, List.set_cons_succ, i64_w, i32_w]
                              rfl
                            refine take_ (i := 5) (N := some 26) (v := ?_) (a' := ?_) #[true, true, true, true, true, true, false, false, false, false, false, false, false, false, false, false, false, false, false, false, false, false, false, false, false] rfl rfl (take_ofW HT_.out HW_.out (by kernel_rfl)) (fun _ _ _ h => h) (Or.inl ⟨by rfl, ?_⟩) hHeld ?_ ?_
                            rotate_left
                            · rintro w' ⟨s0, s1, s2, s3, s4, s5, s6, s7, s8, s9, s10, s11⟩
                              go_simp
                              with_reducible rfl
                            rotate_left
                            · simp only [Act.put, List.setIfInBounds_toArray, List.set_cons_zero, List.set_cons_succ, i64_w, i32_w]
                              rfl
                            refine pure_ (i := 6) (N := some 27) (v := ?_) (a' := ?_) #[true, true, true, true, true, true, true, false, false, false, false, false, false, false, false, false, false, false, false, false, false, false, false, false, false] rfl rfl (any_of HT_.out (by kernel_rfl)) (fun _ _ _ h => h) (Or.inl ⟨by rfl, ?_⟩) ?_ ?_
                            rotate_left
                            · intro w'
                              go_simp
                              with_reducible rfl
                            rotate_left
                            · simp only [Act.put, List.setIfInBounds_toArray, List.set_cons_zero, List.set_cons_succ, i64_w, i32_w]
                              rfl
                            refine pure_ (i := 7) (N := some 28) (v := ?_) (a' := ?_) #[true, true, true, true, true, true, true, true, false, false, false, false, false, false, false, false, false, false, false, false, false, false, false, false, false] rfl rfl (any_of HT_.out (by kernel_rfl)) (fun _ _ _ h => h) (Or.inl ⟨by rfl, ?_⟩) ?_ ?_
                            rotate_left
                            · intro w'
                              go_simp
                              with_reducible rfl
                            rotate_left
                            · simp only [Act.put, List.setIfInBounds_toArray, List.set_cons_zero, List.set_cons_succ, i64_w, i32_w]
                              rfl
                            refine pure_ (i := 8) (N := some 29) (v := ?_) (a' := ?_) #[true, true, true, true, true, true, true, true, true, false, false, false, false, false, false, false, false, false, false, false, false, false, false, false, false] rfl rfl (any_of HT_.out (by kernel_rfl)) (fun _ _ _ h => h) (Or.inl ⟨by rfl, ?_⟩) ?_ ?_
                            rotate_left
                            · intro w'
                              go_simp
                              with_reducible rfl
                            rotate_left
                            · simp only [Act.put, List.setIfInBounds_toArray, List.set_cons_zero, List.set_cons_succ, i64_w, i32_w]
                              rfl
                            refine pure_ (i := 10) (N := some 31) (v := ?_) (a' := ?_) #[true, true, true, true, true, true, true, true, true, false, true, false, false, false, false, false, false, false, false, false, false, false, false, false, false] rfl rfl (any_of HT_.out (by kernel_rfl)) (fun _ _ _ h => h) (Or.inl ⟨by rfl, ?_⟩) ?_ ?_
                            rotate_left
                            · intro w'
                              go_simp
                              with_reducible rfl
                            rotate_left
                            · simp only [Act.put, List.setIfInBounds_toArray, List.set_cons_zero, List.set_cons_succ, i64_w, i32_w]
                              rfl
                            refine take_ (i := 9) (N := some 30) (v := ?_) (a' := ?_) #[true, true, true, true, true, true, true, true, true, true, true, false, false, false, false, false, false, false, false, false, false, false, false, false, false] rfl rfl (take_ofW HT_.out HW_.out (by kernel_rfl)) (fun _ _ _ h => h) (Or.inl ⟨by rfl, ?_⟩) hHeld ?_ ?_
                            rotate_left
                            · rintro w' ⟨s0, s1, s2, s3, s4, s5, s6, s7, s8, s9, s10, s11⟩
                              go_simp
                              with_reducible rfl
                            rotate_left
                            · simp only [Act.put, List.setIfInBounds_toArray, List.set_cons_zero, List.set_cons_succ, i64_w, i32_w]
                              rfl
                            refine take_ (i := 11) (N := some 32) (v := ?_) (a' := ?_) #[true, true, true, true, true, true, true, true, true, true, true, true, false, false, false, false, false, false, false, false, false, false, false, false, false] rfl rfl (take_ofW HT_.out HW_.out (by kernel_rfl)) (fun _ _ _ h => h) (Or.inl ⟨by rfl, ?_⟩) hHeld ?_ ?_
                            rotate_left
                            · rintro w' ⟨s0, s1, s2, s3, s4, s5, s6, s7, s8, s9, s10, s11⟩
                              go_simp
                              with_reducible rfl
                            rotate_left
                            · simp only [Act.put, List.setIfInBounds_toArray, List.set_cons_zero, List.set_cons_succ, i64_w, i32_w]
                              rfl
                            refine pure_ (i := 12) (N := some 33) (v := ?_) (a' := ?_) #[true, true, true, true, true, true, true, true, true, true, true, true, true, false, false, false, false, false, false, false, false, false, false, false, false] rfl rfl (any_of HT_.out (by kernel_rfl)) (fun _ _ _ h => h) (Or.inl ⟨by rfl, ?_⟩) ?_ ?_
                            rotate_left
                            · intro w'
                              go_simp
                              with_reducible rfl
                            rotate_left
                            · simp only [Act.put, List.setIfInBounds_toArray, List.set_cons_zero, List.set_cons_succ, i64_w, i32_w]
                              rfl
                            refine pure_ (i := 13) (N := some 34) (v := ?_) (a' := ?_) #[true, true, true, true, true, true, true, true, true, true, true, true, true, true, false, false, false, false, false, false, false, false, false, false, false] rfl rfl (any_of HT_.out (by kernel_rfl)) (fun _ _ _ h => h) (Or.inl ⟨by rfl, ?_⟩) ?_ ?_
                            rotate_left
                            · intro w'
                              go_simp
                              with_reducible rfl
                            rotate_left
                            · simp only [Act.put, List.setIfInBounds_toArray, List.set_cons_zero, List.set_cons_succ, i64_w, i32_w]
                              rfl
                            refine pure_ (i := 14) (N := some 35) (v := ?_) (a' := ?_) #[true, true, true, true, true, true, true, true, true, true, true, true, true, true, true, false, false, false, false, false, false, false, false, false, false] rfl rfl (any_of HT_.out (by kernel_rfl)) (fun _ _ _ h => h) (Or.inl ⟨by rfl, ?_⟩) ?_ ?_
                            rotate_left
                            · intro w'
                              go_simp
                              with_reducible rfl
                            rotate_left
                            · simp only [Act.put, List.setIfInBounds_toArray, List.set_cons_zero, List.set_cons_succ, i64_w, i32_w]
                              rfl
                            refine pure_ (i := 15) (N := some 36) (v := undef) (a' := ?_) #[true, true, true, true, true, true, true, true, true, true, true, true, true, true, true, true, false, false, false, false, false, false, false, false, false] rfl rfl (any_of HT_.out (by kernel_rfl)) (fun _ _ _ h => h) (Or.inr ⟨by rfl, rfl⟩) ?_ ?_
                            rotate_left
                            · simp only [Act.put, List.setIfInBounds_toArray, List.set_cons_zero, List.set_cons_succ, i64_w, i32_w]
                              rfl
                            refine pure_ (i := 16) (N := some 37) (v := undef) (a' := ?_) #[true, true, true, true, true, true, true, true, true, true, true, true, true, true, true, true, true, false, false, false, false, false, false, false, false] rfl rfl (any_of HT_.out (by kernel_rfl)) (fun _ _ _ h => h) (Or.inr ⟨by rfl, rfl⟩) ?_ ?_
                            rotate_left
                            · simp only [Act.put, List.setIfInBounds_toArray, List.set_cons_zero, List.set_cons_succ, i64_w, i32_w]
                              rfl
                            refine pure_ (i := 17) (N := some 38) (v := undef) (a' := ?_) #[true, true, true, true, true, true, true, true, true, true, true, true, true, true, true, true, true, true, false, false, false, false, false, false, false] rfl rfl (any_of HT_.out (by kernel_rfl)) (fun _ _ _ h => h) (Or.inr ⟨by rfl, rfl⟩) ?_ ?_
                            rotate_left
                            · simp only [Act.put, List.setIfInBounds_toArray, List.set_cons_zero, List.set_cons_succ, i64_w, i32_w]
                              rfl
                            refine pure_ (i := 18) (N := some 39) (v := undef) (a' := ?_) #[true, true, true, true, true, true, true, true, true, true, true, true, true, true, true, true, true, true, true, false, false, false, false, false, false] rfl rfl (any_of HT_.out (by kernel_rfl)) (fun _ _ _ h => h) (Or.inr ⟨by rfl, rfl⟩) ?_ ?_
                            rotate_left
                            · simp only [Act.put, List.setIfInBounds_toArray, List.set_cons_zero, List.set_cons_succ, i64_w, i32_w]
                              rfl
                            refine pure_ (i := 19) (N := some 40) (v := undef) (a' := ?_) #[true, true, true, true, true, true, true, true, true, true, true, true, true, true, true, true, true, true, true, true, false, false, false, false, false] rfl rfl (any_of HT_.out (by kernel_rfl)) (fun _ _ _ h => h) (Or.inr ⟨by rfl, rfl⟩) ?_ ?_
                            rotate_left
                            · simp only [Act.put, List.setIfInBounds_toArray, List.set_cons_zero, List.set_cons_succ, i64_w, i32_w]
                              rfl
                            refine pure_ (i := 20) (N := some 41) (v := undef) (a' := ?_) #[true, true, true, true, true, true, true, true, true, true, true, true, true, true, true, true, true, true, true, true, true, false, false, false, false] rfl rfl (any_of HT_.out (by kernel_rfl)) (fun _ _ _ h => h) (Or.inr ⟨by rfl, rfl⟩) ?_ ?_
                            rotate_left
                            · simp only [Act.put, List.setIfInBounds_toArray, List.set_cons_zero, List.set_cons_succ, i64_w, i32_w]
                              rfl
                            refine pure_ (i := 21) (N := some 42) (v := undef) (a' := ?_) #[true, true, true, true, true, true, true, true, true, true, true, true, true, true, true, true, true, true, true, true, true, true, false, false, false] rfl rfl (any_of HT_.out (by kernel_rfl)) (fun _ _ _ h => h) (Or.inr ⟨by rfl, rfl⟩) ?_ ?_
                            rotate_left
                            · simp only [Act.put, List.setIfInBounds_toArray, List.set_cons_zero, List.set_cons_succ, i64_w, i32_w]
                              rfl
                            refine pure_ (i := 22) (N := some 43) (v := ?_) (a' := ?_) #[true, true, true, true, true, true, true, true, true, true, true, true, true, true, true, true, true, true, true, true, true, true, true, false, false] rfl rfl (any_of HT_.out (by kernel_rfl)) (fun _ _ _ h => h) (Or.inl ⟨by rfl, ?_⟩) ?_ ?_
                            rotate_left
                            · intro w'
                              go_simp
                              with_reducible rfl
                            rotate_left
                            · simp only [Act.put, List.setIfInBounds_toArray, List.set_cons_zero, List.set_cons_succ, i64_w, i32_w]
                              rfl
                            refine pure_ (i := 23) (N := some 44) (v := ?_) (a' := ?_) #[true, true, true, true, true, true, true, true, true, true, true, true, true, true, true, true, true, true, true, true, true, true, true, true, false] rfl rfl (any_of HT_.out (by kernel_rfl)) (fun _ _ _ h => h) (Or.inl ⟨by rfl, ?_⟩) ?_ ?_
                            rotate_left
                            · intro w'
                              go_simp
                              with_reducible rfl
                            rotate_left
                            · simp only [Act.put, List.setIfInBounds_toArray, List.set_cons_zero, List.set_cons_succ, i64_w, i32_w]
                              rfl
                            refine pure_ (i := 24) (N := some 6) (v := ?_) (a' := ?_) #[true, true, true, true, true, true, true, true, true, true, true, true, true, true, true, true, true, true, true, true, true, true, true, true, true] rfl rfl (any_of HT_.out (by kernel_rfl)) (fun _ _ _ h => h) (Or.inl ⟨by rfl, ?_⟩) ?_ ?_
                            rotate_left
                            · intro w'
                              go_simp
                              with_reducible rfl
                            rotate_left
                            · simp only [Act.put, List.setIfInBounds_toArray, List.set_cons_zero, List.set_cons_succ, i64_w, i32_w]
                              rfl
                            refine done_ (done_of HT_.out (by kernel_rfl)) ?_
                            try go_wp2
                            go_roundg k2
                            case measure => have := HK1.out; have := HK2.out; omega
                            case rel => exact ⟨(false), (wrap64 (x17_2 + 1)), (by first | rfl | (simp; done) | (simp [*]; done) | (simp [isEmpty_bne]; done)), (by first | rfl | (simp; done) | (simp [*]; done) | (simp [isEmpty_bne]; done)), H', ⟨by have := HK1.out; have := HK2.out; omega⟩, ⟨by (with_reducible repeat (first | apply Kd.R_alloc | apply Kd.R_drewN | apply Kd.R_drew)); exact Kd.R_mono HO_3.out (fun _ hk => hk.1)⟩, ⟨by (with_reducible repeat (first | refine blk_drewN ?_ _ | refine blk_drew ?_ | refine blk_alloc ?_ _)); exact BK210.out⟩, ⟨by repeat (first | (with_reducible first | exact HB.out | apply below_alloc | apply pw_below_drewN | apply below_drew1 | refine below_set ?_ GE210.out | refine below_set ?_ GE212.out) | exact HB.out)⟩⟩
                        · rw [if_neg c16] at H
                          have c16b0 : (((rd_T44 l0 x17_2).f0.f0) == ((rd_T44 l0 x11_1).f0.f0) && (((rd_T44 l0 x17_2).f0.f1) == ((rd_T44 l0 x11_1).f0.f1) && (((rd_T44 l0 x17_2).f0.f2) == ((rd_T44 l0 x11_1).f0.f2)))) = false := by simpa using c16
                          (try (have c16b1 : decide (((rd_T44 l0 x17_2).f0.f0) = ((rd_T44 l0 x11_1).f0.f0) && (((rd_T44 l0 x17_2).f0.f1) == ((rd_T44 l0 x11_1).f0.f1) && (((rd_T44 l0 x17_2).f0.f2) == ((rd_T44 l0 x11_1).f0.f2)))) = false := by simpa using c16))
                          (try (have c16b2 : (((rd_T44 l0 x17_2).f0.f0) == ((rd_T44 l0 x11_1).f0.f0) && (((rd_T44 l0 x17_2).f0.f1) == ((rd_T44 l0 x11_1).f0.f1) && (((rd_T44 l0 x17_2).f0.f2) == ((rd_T44 l0 x11_1).f0.f2)))) = false := by simpa using c16))
                          (try (have c16b3 : ¬ (((rd_T44 l0 x17_2).f0.f0) = ((rd_T44 l0 x11_1).f0.f0) && (((rd_T44 l0 x17_2).f0.f1) == ((rd_T44 l0 x11_1).f0.f1) && (((rd_T44 l0 x17_2).f0.f2) == ((rd_T44 l0 x11_1).f0.f2)))) := by simpa using c16))
                          clear c16
                          have H' := Aside0.mk H
                          clear H
                          have p211 : 0 ≤ (x17_2 : Int) := of_decide_eq_true (by first | (with_reducible assumption) | assumption)
                          have q211 : x17_2 < (l0.length : Int) := of_decide_eq_true (by first | (with_reducible assumption) | assumption)
                          obtain ⟨ad211, e211, hx211_0, hx211_1, hx211_2, hx211_3, hx211_4, hx211_5⟩ := at_T44 HR0.out x17_2 p211 q211
                          obtain rfl : ad209 = ad211 := (by injection e211)
                          replace hx211_0 := (HB.out.cell (World.block_lt_of_cell? w _ hx211_0)).trans hx211_0
                          replace hx211_1 := (HB.out.cell (World.block_lt_of_cell? w _ hx211_1)).trans hx211_1
                          replace hx211_2 := (HB.out.cell (World.block_lt_of_cell? w _ hx211_2)).trans hx211_2
                          replace hx211_3 := (HB.out.cell (World.block_lt_of_cell? w _ hx211_3)).trans hx211_3
                          replace hx211_4 := (HB.out.cell (World.block_lt_of_cell? w _ hx211_4)).trans hx211_4
                          replace hx211_5 := (HB.out.cell (World.block_lt_of_cell? w _ hx211_5)).trans hx211_5
                          replace p211 := eq_true p211
                          replace q211 := eq_true q211
                          try go_wp2_with (first | ((with_reducible refine gate_dst (N := 8) rfl ?_); refine box_event ?hg (N := 8) ?hd (cs := #[.int .i64 0, .int .i64 0, .int .i64 0, .int .i64 0, .int .i64 0, .int .i64 0]) (t := 44) ?hr ?_; (case hd => rfl); (case hg => rfl); (case hr => first | (go_simp; done) | (go_simp; rfl)); intro gb212 hg w33 hbox hb; have n0_ := Aside0.mk (Kd.R_below (Kd.R_elderB (by (with_reducible repeat (first | apply Kd.R_alloc | apply Kd.R_drewN | apply Kd.R_drew)); exact HO_3.out) gb212 (Nat.le_of_eq hg.symm)) hb); have n1_ := Aside0.mk (blk_below (g := gb210) (o := .cells #[.int .i64 ((rd_T44 l0 x11_1).f0.f0), .int .i64 ((rd_T44 l0 x11_1).f0.f1), .int .i64 ((rd_T44 l0 x11_1).f0.f2), .int .i64 ((rd_T44 l0 x11_1).f1.f0), .int .i64 ((rd_T44 l0 x11_1).f1.f1), .int .i64 ((rd_T44 l0 x11_1).f1.f2)] 44 (0, 0)) (by (with_reducible repeat (first | refine blk_drewN ?_ _ | refine blk_drew ?_ | refine blk_alloc ?_ _)); exact BK210.out) hb); have n2_ := Aside0.mk (below_step (by repeat (first | (with_reducible first | exact HB.out | apply below_alloc | apply pw_below_drewN | apply below_drew1 | refine below_set ?_ GE210.out) | exact HB.out)) hb); have n3_ := Aside0.mk (hbox); have n4_ := Aside0.mk ((by rw [hg]; exact (below_size (by repeat (first | (with_reducible first | exact HB.out | apply below_alloc | apply pw_below_drewN | apply below_drew1 | refine below_set ?_ GE210.out) | exact HB.out))) : w.heap.size ≤ gb212)); have n5_ := Aside0.mk ((by rw [hg]; exact (below_size (by repeat (first | (with_reducible first | exact HB.out | apply below_alloc | apply pw_below_drewN | apply below_drew1 | refine below_set ?_ GE210.out) | exact HB.out))) : w.heap.size ≤ gb212)); have n6_ := Aside0.mk ((by rw [hg]; exact Nat.ne_of_lt (blk_lt (g := gb210) (o := .cells #[.int .i64 ((rd_T44 l0 x11_1).f0.f0), .int .i64 ((rd_T44 l0 x11_1).f0.f1), .int .i64 ((rd_T44 l0 x11_1).f0.f2), .int .i64 ((rd_T44 l0 x11_1).f1.f0), .int .i64 ((rd_T44 l0 x11_1).f1.f1), .int .i64 ((rd_T44 l0 x11_1).f1.f2)] 44 (0, 0)) (by (with_reducible repeat (first | refine blk_drewN ?_ _ | refine blk_drew ?_ | refine blk_alloc ?_ _)); exact BK210.out)) : gb210 ≠ gb212)); have n7_ := Aside0.mk ((by rw [hg]; exact Nat.ne_of_gt (blk_lt (g := gb210) (o := .cells #[.int .i64 ((rd_T44 l0 x11_1).f0.f0), .int .i64 ((rd_T44 l0 x11_1).f0.f1), .int .i64 ((rd_T44 l0 x11_1).f0.f2), .int .i64 ((rd_T44 l0 x11_1).f1.f0), .int .i64 ((rd_T44 l0 x11_1).f1.f1), .int .i64 ((rd_T44 l0 x11_1).f1.f2)] 44 (0, 0)) (by (with_reducible repeat (first | refine blk_drewN ?_ _ | refine blk_drew ?_ | refine blk_alloc ?_ _)); exact BK210.out)) : gb212 ≠ gb210)); clear HO_3; clear BK210; clear HB; have HO_3 := n0_; have BK210 := n1_; have HB := n2_; have BK212 := n3_; have GW212 := n4_; have GE212 := n5_; have NB210_212 := n6_; have NB212_210 := n7_; clear n0_ n1_ n2_ n3_ n4_ n5_ n6_ n7_; clear hb hbox hg; have hnb34 := NB212_210.out; have hnc34 := NB210_212.out; have hcz35_0 : w33.cell? ⟨gb212, 0, none⟩ = some (.int .i64 0) := (blk_cell BK212.out 0).trans rfl; have hcz35_1 : w33.cell? ⟨gb212, 1, none⟩ = some (.int .i64 0) := (blk_cell BK212.out 1).trans rfl; have hcz35_2 : w33.cell? ⟨gb212, 2, none⟩ = some (.int .i64 0) := (blk_cell BK212.out 2).trans rfl; have hcz35_3 : w33.cell? ⟨gb212, 3, none⟩ = some (.int .i64 0) := (blk_cell BK212.out 3).trans rfl; have hcz35_4 : w33.cell? ⟨gb212, 4, none⟩ = some (.int .i64 0) := (blk_cell BK212.out 4).trans rfl; have hcz35_5 : w33.cell? ⟨gb212, 5, none⟩ = some (.int .i64 0) := (blk_cell BK212.out 5).trans rfl; have hfz35_0 := blk_frozen BK212.out 0; have hfz35_1 := blk_frozen BK212.out 1; have hfz35_2 := blk_frozen BK212.out 2; have hfz35_3 := blk_frozen BK212.out 3; have hfz35_4 := blk_frozen BK212.out 4; have hfz35_5 := blk_frozen BK212.out 5))
                          have n0_ : Aside0 (Kd.R k44 44 ((((((w33.setCell ⟨gb212, 0, none⟩ (.int .i64 ((rd_T44 l0 x17_2).f0.f0))).setCell ⟨gb212, 1, none⟩ (.int .i64 ((rd_T44 l0 x17_2).f0.f1))).setCell ⟨gb212, 2, none⟩ (.int .i64 ((rd_T44 l0 x17_2).f0.f2))).setCell ⟨gb212, 3, none⟩ (.int .i64 ((rd_T44 l0 x17_2).f1.f0))).setCell ⟨gb212, 4, none⟩ (.int .i64 ((rd_T44 l0 x17_2).f1.f1))).setCell ⟨gb212, 5, none⟩ (.int .i64 ((rd_T44 l0 x17_2).f1.f2))) w.heap.size (fun k_ => k_ ≠ gb210 ∧ k_ ≠ gb212) u3 x3_1) := ⟨by (with_reducible repeat (first | apply Kd.R_alloc | apply Kd.R_drewN | apply Kd.R_drew)); exact Kd.R_mono (Kd.R_far (p := ⟨gb212, 5, none⟩) (Kd.R_far (p := ⟨gb212, 4, none⟩) (Kd.R_far (p := ⟨gb212, 3, none⟩) (Kd.R_far (p := ⟨gb212, 2, none⟩) (Kd.R_far (p := ⟨gb212, 1, none⟩) (Kd.R_far (p := ⟨gb212, 0, none⟩) (Kd.R_mono HO_3.out (fun k_ hk => (⟨hk, hk.2⟩ : _ ∧ k_ ≠ gb212))) (fun _ hk => hk.2) (.int .i64 ((rd_T44 l0 x17_2).f0.f0))) (fun _ hk => hk.2) (.int .i64 ((rd_T44 l0 x17_2).f0.f1))) (fun _ hk => hk.2) (.int .i64 ((rd_T44 l0 x17_2).f0.f2))) (fun _ hk => hk.2) (.int .i64 ((rd_T44 l0 x17_2).f1.f0))) (fun _ hk => hk.2) (.int .i64 ((rd_T44 l0 x17_2).f1.f1))) (fun _ hk => hk.2) (.int .i64 ((rd_T44 l0 x17_2).f1.f2))) (fun _ hk => ⟨hk.1.1, hk.1.2⟩)⟩
                          have n1_ : Aside0 (((((((w33.setCell ⟨gb212, 0, none⟩ (.int .i64 ((rd_T44 l0 x17_2).f0.f0))).setCell ⟨gb212, 1, none⟩ (.int .i64 ((rd_T44 l0 x17_2).f0.f1))).setCell ⟨gb212, 2, none⟩ (.int .i64 ((rd_T44 l0 x17_2).f0.f2))).setCell ⟨gb212, 3, none⟩ (.int .i64 ((rd_T44 l0 x17_2).f1.f0))).setCell ⟨gb212, 4, none⟩ (.int .i64 ((rd_T44 l0 x17_2).f1.f1))).setCell ⟨gb212, 5, none⟩ (.int .i64 ((rd_T44 l0 x17_2).f1.f2))).heap[gb210]? = some (.cells #[.int .i64 ((rd_T44 l0 x11_1).f0.f0), .int .i64 ((rd_T44 l0 x11_1).f0.f1), .int .i64 ((rd_T44 l0 x11_1).f0.f2), .int .i64 ((rd_T44 l0 x11_1).f1.f0), .int .i64 ((rd_T44 l0 x11_1).f1.f1), .int .i64 ((rd_T44 l0 x11_1).f1.f2)] 44 (0, 0))) := ⟨by (with_reducible repeat (first | refine blk_drewN ?_ _ | refine blk_drew ?_ | refine blk_alloc ?_ _)); refine blk_far ?_ NB210_212.out _; (with_reducible repeat (first | refine blk_drewN ?_ _ | refine blk_drew ?_ | refine blk_alloc ?_ _)); refine blk_far ?_ NB210_212.out _; (with_reducible repeat (first | refine blk_drewN ?_ _ | refine blk_drew ?_ | refine blk_alloc ?_ _)); refine blk_far ?_ NB210_212.out _; (with_reducible repeat (first | refine blk_drewN ?_ _ | refine blk_drew ?_ | refine blk_alloc ?_ _)); refine blk_far ?_ NB210_212.out _; (with_reducible repeat (first | refine blk_drewN ?_ _ | refine blk_drew ?_ | refine blk_alloc ?_ _)); refine blk_far ?_ NB210_212.out _; (with_reducible repeat (first | refine blk_drewN ?_ _ | refine blk_drew ?_ | refine blk_alloc ?_ _)); refine blk_far ?_ NB210_212.out _; (with_reducible repeat (first | refine blk_drewN ?_ _ | refine blk_drew ?_ | refine blk_alloc ?_ _)); exact BK210.out⟩
                          have n2_ : Aside0 (((((((w33.setCell ⟨gb212, 0, none⟩ (.int .i64 ((rd_T44 l0 x17_2).f0.f0))).setCell ⟨gb212, 1, none⟩ (.int .i64 ((rd_T44 l0 x17_2).f0.f1))).setCell ⟨gb212, 2, none⟩ (.int .i64 ((rd_T44 l0 x17_2).f0.f2))).setCell ⟨gb212, 3, none⟩ (.int .i64 ((rd_T44 l0 x17_2).f1.f0))).setCell ⟨gb212, 4, none⟩ (.int .i64 ((rd_T44 l0 x17_2).f1.f1))).setCell ⟨gb212, 5, none⟩ (.int .i64 ((rd_T44 l0 x17_2).f1.f2))).heap[gb212]? = some (.cells #[.int .i64 ((rd_T44 l0 x17_2).f0.f0), .int .i64 ((rd_T44 l0 x17_2).f0.f1), .int .i64 ((rd_T44 l0 x17_2).f0.f2), .int .i64 ((rd_T44 l0 x17_2).f1.f0), .int .i64 ((rd_T44 l0 x17_2).f1.f1), .int .i64 ((rd_T44 l0 x17_2).f1.f2)] 44 (0, 0))) := ⟨by (with_reducible repeat (first | refine blk_drewN ?_ _ | refine blk_drew ?_ | refine blk_alloc ?_ _)); refine blk_put (cs := #[.int .i64 ((rd_T44 l0 x17_2).f0.f0), .int .i64 ((rd_T44 l0 x17_2).f0.f1), .int .i64 ((rd_T44 l0 x17_2).f0.f2), .int .i64 ((rd_T44 l0 x17_2).f1.f0), .int .i64 ((rd_T44 l0 x17_2).f1.f1), .int .i64 0]) ?_ 5 _ rfl; (with_reducible repeat (first | refine blk_drewN ?_ _ | refine blk_drew ?_ | refine blk_alloc ?_ _)); refine blk_put (cs := #[.int .i64 ((rd_T44 l0 x17_2).f0.f0), .int .i64 ((rd_T44 l0 x17_2).f0.f1), .int .i64 ((rd_T44 l0 x17_2).f0.f2), .int .i64 ((rd_T44 l0 x17_2).f1.f0), .int .i64 0, .int .i64 0]) ?_ 4 _ rfl; (with_reducible repeat (first | refine blk_drewN ?_ _ | refine blk_drew ?_ | refine blk_alloc ?_ _)); refine blk_put (cs := #[.int .i64 ((rd_T44 l0 x17_2).f0.f0), .int .i64 ((rd_T44 l0 x17_2).f0.f1), .int .i64 ((rd_T44 l0 x17_2).f0.f2), .int .i64 0, .int .i64 0, .int .i64 0]) ?_ 3 _ rfl; (with_reducible repeat (first | refine blk_drewN ?_ _ | refine blk_drew ?_ | refine blk_alloc ?_ _)); refine blk_put (cs := #[.int .i64 ((rd_T44 l0 x17_2).f0.f0), .int .i64 ((rd_T44 l0 x17_2).f0.f1), .int .i64 0, .int .i64 0, .int .i64 0, .int .i64 0]) ?_ 2 _ rfl; (with_reducible repeat (first | refine blk_drewN ?_ _ | refine blk_drew ?_ | refine blk_alloc ?_ _)); refine blk_put (cs := #[.int .i64 ((rd_T44 l0 x17_2).f0.f0), .int .i64 0, .int .i64 0, .int .i64 0, .int .i64 0, .int .i64 0]) ?_ 1 _ rfl; (with_reducible repeat (first | refine blk_drewN ?_ _ | refine blk_drew ?_ | refine blk_alloc ?_ _)); refine blk_put (cs := #[.int .i64 0, .int .i64 0, .int .i64 0, .int .i64 0, .int .i64 0, .int .i64 0]) ?_ 0 _ rfl; (with_reducible repeat (first | refine blk_drewN ?_ _ | refine blk_drew ?_ | refine blk_alloc ?_ _)); exact BK212.out⟩
                          have n3_ : Aside0 (Below w.heap.size w ((((((w33.setCell ⟨gb212, 0, none⟩ (.int .i64 ((rd_T44 l0 x17_2).f0.f0))).setCell ⟨gb212, 1, none⟩ (.int .i64 ((rd_T44 l0 x17_2).f0.f1))).setCell ⟨gb212, 2, none⟩ (.int .i64 ((rd_T44 l0 x17_2).f0.f2))).setCell ⟨gb212, 3, none⟩ (.int .i64 ((rd_T44 l0 x17_2).f1.f0))).setCell ⟨gb212, 4, none⟩ (.int .i64 ((rd_T44 l0 x17_2).f1.f1))).setCell ⟨gb212, 5, none⟩ (.int .i64 ((rd_T44 l0 x17_2).f1.f2)))) := ⟨by repeat (first | (with_reducible first | exact HB.out | apply below_alloc | apply pw_below_drewN | apply below_drew1 | refine below_set ?_ GE210.out | refine below_set ?_ GE212.out) | exact HB.out)⟩
                          (try clear HO_3)
                          (try clear BK210)
                          (try clear BK212)
                          (try clear HB)
                          generalize ((((((w33.setCell ⟨gb212, 0, none⟩ (.int .i64 ((rd_T44 l0 x17_2).f0.f0))).setCell ⟨gb212, 1, none⟩ (.int .i64 ((rd_T44 l0 x17_2).f0.f1))).setCell ⟨gb212, 2, none⟩ (.int .i64 ((rd_T44 l0 x17_2).f0.f2))).setCell ⟨gb212, 3, none⟩ (.int .i64 ((rd_T44 l0 x17_2).f1.f0))).setCell ⟨gb212, 4, none⟩ (.int .i64 ((rd_T44 l0 x17_2).f1.f1))).setCell ⟨gb212, 5, none⟩ (.int .i64 ((rd_T44 l0 x17_2).f1.f2))) = w36 at n0_ n1_ n2_ n3_ ⊢
                          have HO_3 := n0_
                          have BK210 := n1_
                          have BK212 := n2_
                          have HB := n3_
                          clear n0_ n1_ n2_ n3_
                          have n0_ := Aside0.mk (Kd.R_drew HO_3.out)
                          have n1_ := Aside0.mk (blk_drew BK210.out)
                          have n2_ := Aside0.mk (blk_drew BK212.out)
                          have n3_ := Aside0.mk (below_drew1 HB.out)
                          clear HO_3
                          clear BK210
                          clear BK212
                          clear HB
                          have HO_3 := n0_
                          have BK210 := n1_
                          have BK212 := n2_
                          have HB := n3_
                          clear n0_ n1_ n2_ n3_
                          refine start_ (n := 25) (S := fun w' => w'.cell? ⟨gb212, 0, none⟩ = some (.int .i64 ((rd_T44 l0 x17_2).f0.f0)) ∧ w'.cell? ⟨gb212, 1, none⟩ = some (.int .i64 ((rd_T44 l0 x17_2).f0.f1)) ∧ w'.cell? ⟨gb212, 2, none⟩ = some (.int .i64 ((rd_T44 l0 x17_2).f0.f2)) ∧ w'.cell? ⟨gb212, 3, none⟩ = some (.int .i64 ((rd_T44 l0 x17_2).f1.f0)) ∧ w'.cell? ⟨gb212, 4, none⟩ = some (.int .i64 ((rd_T44 l0 x17_2).f1.f1)) ∧ w'.cell? ⟨gb212, 5, none⟩ = some (.int .i64 ((rd_T44 l0 x17_2).f1.f2)) ∧ w'.cell? ⟨gb210, 0, none⟩ = some (.int .i64 ((rd_T44 l0 x11_1).f0.f0)) ∧ w'.cell? ⟨gb210, 1, none⟩ = some (.int .i64 ((rd_T44 l0 x11_1).f0.f1)) ∧ w'.cell? ⟨gb210, 2, none⟩ = some (.int .i64 ((rd_T44 l0 x11_1).f0.f2)) ∧ w'.cell? ⟨gb210, 3, none⟩ = some (.int .i64 ((rd_T44 l0 x11_1).f1.f0)) ∧ w'.cell? ⟨gb210, 4, none⟩ = some (.int .i64 ((rd_T44 l0 x11_1).f1.f1)) ∧ w'.cell? ⟨gb210, 5, none⟩ = some (.int .i64 ((rd_T44 l0 x11_1).f1.f2))) (ds := []) #[false, false, false, false, false, false, false, false, false, false, false, false, false, false, false, false, false, false, false, false, false, false, false, false, false] (by kernel_rfl) rfl rfl ⟨(blk_cell BK212.out 0).trans rfl, (blk_cell BK212.out 1).trans rfl, (blk_cell BK212.out 2).trans rfl, (blk_cell BK212.out 3).trans rfl, (blk_cell BK212.out 4).trans rfl, (blk_cell BK212.out 5).trans rfl, (blk_cell BK210.out 0).trans rfl, (blk_cell BK210.out 1).trans rfl, (blk_cell BK210.out 2).trans rfl, (blk_cell BK210.out 3).trans rfl, (blk_cell BK210.out 4).trans rfl, (blk_cell BK210.out 5).trans rfl⟩ (fun hHeld => ?_); refine with_tabW glossatorref3_Reduction.tab9 glossatorref3_Reduction.bits9 (fun HT_ HW_ => ?_)
                          generalize w36.drew = w37 at HO_3 BK210 BK212 HB hHeld ⊢
                          refine pure_ (i := 0) (N := some 21) (v := ?_) (a' := ?_) #[true, false, false, false, false, false, false, false, false, false, false, false, false, false, false, false, false, false, false, false, false, false, false, false, false] rfl rfl (any_of HT_.out (by kernel_rfl)) (fun _ _ _ h => h) (Or.inl ⟨by rfl, ?_⟩) ?_ ?_
                          rotate_left
                          · intro w'
                            go_simp
                            with_reducible rfl
                          rotate_left
                          · simp only [Act.put, List.setIfInBounds_toArray, List.set_cons_zero, List.set_cons_succ, i64_w, i32_w]
                            rfl
                          refine pure_ (i := 1) (N := some 22) (v := ?_) (a' := ?_) #[true, true, false, false, false, false, false, false, false, false, false, false, false, false, false, false, false, false, false, false, false, false, false, false, false] rfl rfl (any_of HT_.out (by kernel_rfl)) (fun _ _ _ h => h) (Or.inl ⟨by rfl, ?_⟩) ?_ ?_
                          rotate_left
                          · intro w'
                            go_simp
                            with_reducible rfl
                          rotate_left
                          · simp only [Act.put, List.setIfInBounds_toArray, List.set_cons_zero, List.set_cons_succ, i64_w, i32_w]
                            rfl
                          refine pure_ (i := 2) (N := some 23) (v := ?_) (a' := ?_) #[true, true, true, false, false, false, false, false, false, false, false, false, false, false, false, false, false, false, false, false, false, false, false, false, false] rfl rfl (any_of HT_.out (by kernel_rfl)) (fun _ _ _ h => h) (Or.inl ⟨by rfl, ?_⟩) ?_ ?_
                          rotate_left
                          · intro w'
                            go_simp
                            with_reducible rfl
                          rotate_left
                          · simp only [Act.put, List.setIfInBounds_toArray, List.set_cons_zero, List.set_cons_succ, i64_w, i32_w]
                            rfl
                          refine pure_ (i := 4) (N := some 25) (v := ?_) (a' := ?_) #[true, true, true, false, true, false, false, false, false, false, false, false, false, false, false, false, false, false, false, false, false, false, false, false, false] rfl rfl (any_of HT_.out (by kernel_rfl)) (fun _ _ _ h => h) (Or.inl ⟨by rfl, ?_⟩) ?_ ?_
                          rotate_left
                          · intro w'
                            go_simp
                            with_reducible rfl
                          rotate_left
                          · simp only [Act.put, List.setIfInBounds_toArray, List.set_cons_zero, List.set_cons_succ, i64_w, i32_w]
                            rfl
                          refine take_ (i := 3) (N := some 24) (v := ?_) (a' := ?_) #[true, true, true, true, true, false, false, false, false, false, false, false, false, false, false, false, false, false, false, false, false, false, false, false, false] rfl rfl (take_ofW HT_.out HW_.out (by kernel_rfl)) (fun _ _ _ h => h) (Or.inl ⟨by rfl, ?_⟩) hHeld ?_ ?_
                          rotate_left
                          · rintro w' ⟨s0, s1, s2, s3, s4, s5, s6, s7, s8, s9, s10, s11⟩
                            go_simp
                            with_reducible rfl
                          rotate_left
                          · simp only [Act.put, List.setIfInBounds_toArray, List.set_cons_zero, List.set_cons_succ, i64_w, i32_w]
                            rfl
                          refine take_ (i := 5) (N := some 26) (v := ?_) (a' := ?_) #[true, true, true, true, true, true, false, false, false, false, false, false, false, false, false, false, false, false, false, false, false, false, false, false, false] rfl rfl (take_ofW HT_.out HW_.out (by kernel_rfl)) (fun _ _ _ h => h) (Or.inl ⟨by rfl, ?_⟩) hHeld ?_ ?_
                          rotate_left
                          · rintro w' ⟨s0, s1, s2, s3, s4, s5, s6, s7, s8, s9, s10, s11⟩
                            go_simp
                            with_reducible rfl
                          rotate_left
                          · simp only [Act.put, List.setIfInBounds_toArray, List.set_cons_zero, List.set_cons_succ, i64_w, i32_w]
                            rfl
                          refine pure_ (i := 6) (N := some 27) (v := ?_) (a' := ?_) #[true, true, true, true, true, true, true, false, false, false, false, false, false, false, false, false, false, false, false, false, false, false, false, false, false] rfl rfl (any_of HT_.out (by kernel_rfl)) (fun _ _ _ h => h) (Or.inl ⟨by rfl, ?_⟩) ?_ ?_
                          rotate_left
                          · intro w'
                            go_simp
                            with_reducible rfl
                          rotate_left
                          · simp only [Act.put, List.setIfInBounds_toArray, List.set_cons_zero, List.set_cons_succ, i64_w, i32_w]
                            rfl
                          refine pure_ (i := 7) (N := some 28) (v := ?_) (a' := ?_) #[true, true, true, true, true, true, true, true, false, false, false, false, false, false, false, false, false, false, false, false, false, false, false, false, false] rfl rfl (any_of HT_.out (by kernel_rfl)) (fun _ _ _ h => h) (Or.inl ⟨by rfl, ?_⟩) ?_ ?_
                          rotate_left
                          · intro w'
                            go_simp
                            with_reducible rfl
                          rotate_left
                          · simp only [Act.put, List.setIfInBounds_toArray, List.set_cons_zero, List.set_cons_succ, i64_w, i32_w]
                            rfl
                          refine pure_ (i := 8) (N := some 29) (v := undef) (a' := ?_) #[true, true, true, true, true, true, true, true, true, false, false, false, false, false, false, false, false, false, false, false, false, false, false, false, false] rfl rfl (any_of HT_.out (by kernel_rfl)) (fun _ _ _ h => h) (Or.inr ⟨by rfl, rfl⟩) ?_ ?_
                          rotate_left
                          · simp only [Act.put, List.setIfInBounds_toArray, List.set_cons_zero, List.set_cons_succ, i64_w, i32_w]
                            rfl
                          refine pure_ (i := 9) (N := some 30) (v := undef) (a' := ?_) #[true, true, true, true, true, true, true, true, true, true, false, false, false, false, false, false, false, false, false, false, false, false, false, false, false] rfl rfl (any_of HT_.out (by kernel_rfl)) (fun _ _ _ h => h) (Or.inr ⟨by rfl, rfl⟩) ?_ ?_
                          rotate_left
                          · simp only [Act.put, List.setIfInBounds_toArray, List.set_cons_zero, List.set_cons_succ, i64_w, i32_w]
                            rfl
                          refine pure_ (i := 10) (N := some 31) (v := undef) (a' := ?_) #[true, true, true, true, true, true, true, true, true, true, true, false, false, false, false, false, false, false, false, false, false, false, false, false, false] rfl rfl (any_of HT_.out (by kernel_rfl)) (fun _ _ _ h => h) (Or.inr ⟨by rfl, rfl⟩) ?_ ?_
                          rotate_left
                          · simp only [Act.put, List.setIfInBounds_toArray, List.set_cons_zero, List.set_cons_succ, i64_w, i32_w]
                            rfl
                          refine pure_ (i := 11) (N := some 32) (v := undef) (a' := ?_) #[true, true, true, true, true, true, true, true, true, true, true, true, false, false, false, false, false, false, false, false, false, false, false, false, false] rfl rfl (any_of HT_.out (by kernel_rfl)) (fun _ _ _ h => h) (Or.inr ⟨by rfl, rfl⟩) ?_ ?_
                          rotate_left
                          · simp only [Act.put, List.setIfInBounds_toArray, List.set_cons_zero, List.set_cons_succ, i64_w, i32_w]
                            rfl
                          refine pure_ (i := 12) (N := some 33) (v := undef) (a' := ?_) #[true, true, true, true, true, true, true, true, true, true, true, true, true, false, false, false, false, false, false, false, false, false, false, false, false] rfl rfl (any_of HT_.out (by kernel_rfl)) (fun _ _ _ h => h) (Or.inr ⟨by rfl, rfl⟩) ?_ ?_
                          rotate_left
                          · simp only [Act.put, List.setIfInBounds_toArray, List.set_cons_zero, List.set_cons_succ, i64_w, i32_w]
                            rfl
                          refine pure_ (i := 13) (N := some 34) (v := ?_) (a' := ?_) #[true, true, true, true, true, true, true, true, true, true, true, true, true, true, false, false, false, false, false, false, false, false, false, false, false] rfl rfl (any_of HT_.out (by kernel_rfl)) (fun _ _ _ h => h) (Or.inl ⟨by rfl, ?_⟩) ?_ ?_
                          rotate_left
                          · intro w'
                            go_simp
                            with_reducible rfl
                          rotate_left
                          · simp only [Act.put, List.setIfInBounds_toArray, List.set_cons_zero, List.set_cons_succ, i64_w, i32_w]
                            rfl
                          refine pure_ (i := 14) (N := some 35) (v := ?_) (a' := ?_) #[true, true, true, true, true, true, true, true, true, true, true, true, true, true, true, false, false, false, false, false, false, false, false, false, false] rfl rfl (any_of HT_.out (by kernel_rfl)) (fun _ _ _ h => h) (Or.inl ⟨by rfl, ?_⟩) ?_ ?_
                          rotate_left
                          · intro w'
                            go_simp
                            with_reducible rfl
                          rotate_left
                          · simp only [Act.put, List.setIfInBounds_toArray, List.set_cons_zero, List.set_cons_succ, i64_w, i32_w]
                            rfl
                          refine pure_ (i := 15) (N := some 36) (v := undef) (a' := ?_) #[true, true, true, true, true, true, true, true, true, true, true, true, true, true, true, true, false, false, false, false, false, false, false, false, false] rfl rfl (any_of HT_.out (by kernel_rfl)) (fun _ _ _ h => h) (Or.inr ⟨by rfl, rfl⟩) ?_ ?_
                          rotate_left
                          · simp only [Act.put, List.setIfInBounds_toArray, List.set_cons_zero, List.set_cons_succ, i64_w, i32_w]
                            rfl
                          refine pure_ (i := 16) (N := some 37) (v := undef) (a' := ?_) #[true, true, true, true, true, true, true, true, true, true, true, true, true, true, true, true, true, false, false, false, false, false, false, false, false] rfl rfl (any_of HT_.out (by kernel_rfl)) (fun _ _ _ h => h) (Or.inr ⟨by rfl, rfl⟩) ?_ ?_
                          rotate_left
                          · simp only [Act.put, List.setIfInBounds_toArray, List.set_cons_zero, List.set_cons_succ, i64_w, i32_w]
                            rfl
                          refine pure_ (i := 17) (N := some 38) (v := undef) (a' := ?_) #[true, true, true, true, true, true, true, true, true, true, true, true, true, true, true, true, true, true, false, false, false, false, false, false, false] rfl rfl (any_of HT_.out (by kernel_rfl)) (fun _ _ _ h => h) (Or.inr ⟨by rfl, rfl⟩) ?_ ?_
                          rotate_left
                          · simp only [Act.put, List.setIfInBounds_toArray, List.set_cons_zero, List.set_cons_succ, i64_w, i32_w]
                            rfl
                          refine pure_ (i := 18) (N := some 39) (v := undef) (a' := ?_) #[true, true, true, true, true, true, true, true, true, true, true, true, true, true, true, true, true, true, true, false, false, false, false, false, false] rfl rfl (any_of HT_.out (by kernel_rfl)) (fun _ _ _ h => h) (Or.inr ⟨by rfl, rfl⟩) ?_ ?_
                          rotate_left
                          · simp only [Act.put, List.setIfInBounds_toArray, List.set_cons_zero, List.set_cons_succ, i64_w, i32_w]
                            rfl
                          refine pure_ (i := 19) (N := some 40) (v := undef) (a' := ?_) #[true, true, true, true, true, true, true, true, true, true, true, true, true, true, true, true, true, true, true, true, false, false, false, false, false] rfl rfl (any_of HT_.out (by kernel_rfl)) (fun _ _ _ h => h) (Or.inr ⟨by rfl, rfl⟩) ?_ ?_
                          rotate_left
                          · simp only [Act.put, List.setIfInBounds_toArray, List.set_cons_zero, List.set_cons_succ, i64_w, i32_w]
                            rfl
                          refine pure_ (i := 20) (N := some 41) (v := undef) (a' := ?_) #[true, true, true, true, true, true, true, true, true, true, true, true, true, true, true, true, true, true, true, true, true, false, false, false, false] rfl rfl (any_of HT_.out (by kernel_rfl)) (fun _ _ _ h => h) (Or.inr ⟨by rfl, rfl⟩) ?_ ?_
                          rotate_left
                          · simp only [Act.put, List.setIfInBounds_toArray, List.set_cons_zero, List.set_cons_succ, i64_w, i32_w]
                            rfl
                          refine pure_ (i := 21) (N := some 42) (v := undef) (a' := ?_) #[true, true, true, true, true, true, true, true, true, true, true, true, true, true, true, true, true, true, true, true, true, true, false, false, false] rfl rfl (any_of HT_.out (by kernel_rfl)) (fun _ _ _ h => h) (Or.inr ⟨by rfl, rfl⟩) ?_ ?_
                          rotate_left
                          · simp only [Act.put, List.setIfInBounds_toArray, List.set_cons_zero, List.set_cons_succ, i64_w, i32_w]
                            rfl
                          refine pure_ (i := 22) (N := some 43) (v := ?_) (a' := ?_) #[true, true, true, true, true, true, true, true, true, true, true, true, true, true, true, true, true, true, true, true, true, true, true, false, false] rfl rfl (any_of HT_.out (by kernel_rfl)) (fun _ _ _ h => h) (Or.inl ⟨by rfl, ?_⟩) ?_ ?_
                          rotate_left
                          · intro w'
                            go_simp
                            with_reducible rfl
                          rotate_left
                          · simp only [Act.put, List.setIfInBounds_toArray, List.set_cons_zero, List.set_cons_succ, i64_w, i32_w]
                            rfl
                          refine pure_ (i := 23) (N := some 44) (v := ?_) (a' := ?_) #[true, true, true, true, true, true, true, true, true, true, true, true, true, true, true, true, true, true, true, true, true, true, true, true, false] rfl rfl (any_of HT_.out (by kernel_rfl)) (fun _ _ _ h => h) (Or.inl ⟨by rfl, ?_⟩) ?_ ?_
                          rotate_left
                          · intro w'
                            go_simp
                            with_reducible rfl
                          rotate_left
                          · simp only [Act.put, List.setIfInBounds_toArray, List.set_cons_zero, List.set_cons_succ, i64_w, i32_w]
                            rfl
                          refine pure_ (i := 24) (N := some 6) (v := ?_) (a' := ?_) #[true, true, true, true, true, true, true, true, true, true, true, true, true, true, true, true, true, true, true, true, true, true, true, true, true] rfl rfl (any_of HT_.out (by kernel_rfl)) (fun _ _ _ h => h) (Or.inl ⟨by rfl, ?_⟩) ?_ ?_
                          rotate_left
                          · intro w'
                            go_simp
                            with_reducible rfl
                          rotate_left
                          · simp only [Act.put, List.setIfInBounds_toArray, List.set_cons_zero, List.set_cons_succ, i64_w, i32_w]
                            rfl
                          refine done_ (done_of HT_.out (by kernel_rfl)) ?_
                          try go_wp2
                          go_roundg k2
                          case measure => have := HK1.out; have := HK2.out; omega
                          case rel => exact ⟨(false), (wrap64 (x17_2 + 1)), (by first | rfl | (simp; done) | (simp [*]; done) | (simp [isEmpty_bne]; done)), (by first | rfl | (simp; done) | (simp [*]; done) | (simp [isEmpty_bne]; done)), H', ⟨by have := HK1.out; have := HK2.out; omega⟩, ⟨by (with_reducible repeat (first | apply Kd.R_alloc | apply Kd.R_drewN | apply Kd.R_drew)); exact Kd.R_mono HO_3.out (fun _ hk => hk.1)⟩, ⟨by (with_reducible repeat (first | refine blk_drewN ?_ _ | refine blk_drew ?_ | refine blk_alloc ?_ _)); exact BK210.out⟩, ⟨by repeat (first | (with_reducible first | exact HB.out | apply below_alloc | apply pw_below_drewN | apply below_drew1 | refine below_set ?_ GE210.out | refine below_set ?_ GE212.out) | exact HB.out)⟩⟩
                    · rw [if_neg c9] at H
                      exact absurd H (by simp)
                  · rw [if_neg c8] at H
                    exact absurd H (by simp)
                · rw [if_neg c7] at H
                  have c7b0 : decide (x17_2 < (l0.length : Int)) = false := decide_eq_false c7
                  clear c7
                  by_cases c38 : x6_2 = true
                  · subst c38
                    have H1 : (glossatorref3_Reduction.l0 k2 l0 x3_1 l0 (l0.length : Int) (wrap64 (x11_1 + 1))) = some r := by rw [if_pos rfl] at H; exact H
                    clear H
                    have H := H1
                    clear H1
                    have H' := Aside0.mk H
                    clear H
                    go_wp2
                    go_roundg k2
                    case measure => have := HK1.out; have := HK2.out; omega
                    case rel => exact ⟨(x3_1), (wrap64 (x11_1 + 1)), (by first | rfl | (simp; done) | (simp [*]; done) | (simp [isEmpty_bne]; done)), H', ⟨by have := HK1.out; have := HK2.out; omega⟩, ⟨by (with_reducible repeat (first | apply Kd.R_alloc | apply Kd.R_drewN | apply Kd.R_drew)); exact Kd.R_mono HO_3.out (fun _ hk => trivial)⟩, ⟨by repeat (first | (with_reducible first | exact HB.out | apply below_alloc | apply pw_below_drewN | apply below_drew1 | refine below_set ?_ GE210.out) | exact HB.out)⟩⟩
                  · replace c38 := Bool.eq_false_iff.mpr c38
                    subst c38
                    have H1 : ((api_QEdge_35.f k2 x3_1 ((rd_T44 l0 x11_1).f0.f0) ((rd_T44 l0 x11_1).f0.f1) ((rd_T44 l0 x11_1).f0.f2) ((rd_T44 l0 x11_1).f1.f0) ((rd_T44 l0 x11_1).f1.f1) ((rd_T44 l0 x11_1).f1.f2)).bind fun t217 => (if t217 = true then (glossatorref3_Reduction.l0 k2 l0 x3_1 l0 (l0.length : Int) (wrap64 (x11_1 + 1))) else (if x3_1.length < 2932031007402 then (glossatorref3_Reduction.l0 k2 l0 (x3_1 ++ [(⟨(⟨((rd_T44 l0 x11_1).f0.f0), ((rd_T44 l0 x11_1).f0.f1), ((rd_T44 l0 x11_1).f0.f2)⟩ : S24), (⟨((rd_T44 l0 x11_1).f1.f0), ((rd_T44 l0 x11_1).f1.f1), ((rd_T44 l0 x11_1).f1.f2)⟩ : S24)⟩ : S44)]) l0 (l0.length : Int) (wrap64 (x11_1 + 1))) else (none)))) = some r := by rw [if_neg (show ¬ (false = true) by decide)] at H; exact H
                    clear H
                    have H := H1
                    clear H1
                    replace H := Option.bind_eq_some_iff.mp H
                    obtain ⟨t217, A390, H⟩ := H
                    replace H : (if t217 = true then (glossatorref3_Reduction.l0 k2 l0 x3_1 l0 (l0.length : Int) (wrap64 (x11_1 + 1))) else (if x3_1.length < 2932031007402 then (glossatorref3_Reduction.l0 k2 l0 (x3_1 ++ [(⟨(⟨((rd_T44 l0 x11_1).f0.f0), ((rd_T44 l0 x11_1).f0.f1), ((rd_T44 l0 x11_1).f0.f2)⟩ : S24), (⟨((rd_T44 l0 x11_1).f1.f0), ((rd_T44 l0 x11_1).f1.f1), ((rd_T44 l0 x11_1).f1.f2)⟩ : S24)⟩ : S44)]) l0 (l0.length : Int) (wrap64 (x11_1 + 1))) else (none))) = some r := H
                    have A39 := Aside0.mk A390
                    clear A390
                    by_cases c40 : t217 = true
                    · subst c40
                      have H1 : (glossatorref3_Reduction.l0 k2 l0 x3_1 l0 (l0.length : Int) (wrap64 (x11_1 + 1))) = some r := by rw [if_pos rfl] at H; exact H
                      clear H
                      have H := H1
                      clear H1
                      have H' := Aside0.mk H
                      clear H
                      have hcz41_0 : wr.cell? ⟨gb210, 0, none⟩ = some (.int .i64 ((rd_T44 l0 x11_1).f0.f0)) := (blk_cell BK210.out 0).trans rfl
                      have hcz41_1 : wr.cell? ⟨gb210, 1, none⟩ = some (.int .i64 ((rd_T44 l0 x11_1).f0.f1)) := (blk_cell BK210.out 1).trans rfl
                      have hcz41_2 : wr.cell? ⟨gb210, 2, none⟩ = some (.int .i64 ((rd_T44 l0 x11_1).f0.f2)) := (blk_cell BK210.out 2).trans rfl
                      have hcz41_3 : wr.cell? ⟨gb210, 3, none⟩ = some (.int .i64 ((rd_T44 l0 x11_1).f1.f0)) := (blk_cell BK210.out 3).trans rfl
                      have hcz41_4 : wr.cell? ⟨gb210, 4, none⟩ = some (.int .i64 ((rd_T44 l0 x11_1).f1.f1)) := (blk_cell BK210.out 4).trans rfl
                      have hcz41_5 : wr.cell? ⟨gb210, 5, none⟩ = some (.int .i64 ((rd_T44 l0 x11_1).f1.f2)) := (blk_cell BK210.out 5).trans rfl
                      have hfz41_0 := blk_frozen BK210.out 0
                      have hfz41_1 := blk_frozen BK210.out 1
                      have hfz41_2 := blk_frozen BK210.out 2
                      have hfz41_3 := blk_frozen BK210.out 3
                      have hfz41_4 := blk_frozen BK210.out 4
                      have hfz41_5 := blk_frozen BK210.out 5
                      obtain ⟨Ao42, co42, eo42⟩ := Kd.R_slice HO_3.out
                      subst eo42
                      go_wp2_with (first | (go_at_call 35; (with_reducible refine (api_QEdge_35.calls k2 _ _ x3_1 ((rd_T44 l0 x11_1).f0.f0) ((rd_T44 l0 x11_1).f0.f1) ((rd_T44 l0 x11_1).f0.f2) ((rd_T44 l0 x11_1).f1.f0) ((rd_T44 l0 x11_1).f1.f1) ((rd_T44 l0 x11_1).f1.f2) true _ ?side1 ?side2 A39.out).mono ?_); (case side1 => repeat (first | exact (Kd.R_reads' HO_3.out).2.2 | (with_reducible refine Kd.C_alloc ?_ _) | (with_reducible refine Kd.C_drewN ?_ _) | (with_reducible refine Kd.C_drew ?_))); (case side2 => exact (Kd.R_reads' HO_3.out).2.1); rintro e w43 ⟨rfl, hb⟩; have n0_ := Aside0.mk (Kd.R_below (by (with_reducible repeat (first | apply Kd.R_alloc | apply Kd.R_drewN | apply Kd.R_drew)); exact HO_3.out) hb); have n1_ := Aside0.mk (blk_below (g := gb210) (o := .cells #[.int .i64 ((rd_T44 l0 x11_1).f0.f0), .int .i64 ((rd_T44 l0 x11_1).f0.f1), .int .i64 ((rd_T44 l0 x11_1).f0.f2), .int .i64 ((rd_T44 l0 x11_1).f1.f0), .int .i64 ((rd_T44 l0 x11_1).f1.f1), .int .i64 ((rd_T44 l0 x11_1).f1.f2)] 44 (0, 0)) (by (with_reducible repeat (first | refine blk_drewN ?_ _ | refine blk_drew ?_ | refine blk_alloc ?_ _)); exact BK210.out) hb); have n2_ := Aside0.mk (below_step (by repeat (first | (with_reducible first | exact HB.out | apply below_alloc | apply pw_below_drewN | apply below_drew1 | refine below_set ?_ GE210.out) | exact HB.out)) hb); clear HO_3; clear BK210; clear HB; have HO_3 := n0_; have BK210 := n1_; have HB := n2_; clear n0_ n1_ n2_; (try clear hb); (try clear hb2); (try clear hk); (try clear hi)))
                      go_roundg k2
                      case measure => have := HK1.out; have := HK2.out; omega
                      case rel => exact ⟨(x3_1), (wrap64 (x11_1 + 1)), (by first | rfl | (simp; done) | (simp [*]; done) | (simp [isEmpty_bne]; done)), H', ⟨by have := HK1.out; have := HK2.out; omega⟩, ⟨by (with_reducible repeat (first | apply Kd.R_alloc | apply Kd.R_drewN | apply Kd.R_drew)); exact Kd.R_mono HO_3.out (fun _ hk => trivial)⟩, ⟨by repeat (first | (with_reducible first | exact HB.out | apply below_alloc | apply pw_below_drewN | apply below_drew1 | refine below_set ?_ GE210.out) | exact HB.out)⟩⟩
                    · replace c40 := Bool.eq_false_iff.mpr c40
                      subst c40
                      have H1 : (if x3_1.length < 2932031007402 then (glossatorref3_Reduction.l0 k2 l0 (x3_1 ++ [(⟨(⟨((rd_T44 l0 x11_1).f0.f0), ((rd_T44 l0 x11_1).f0.f1), ((rd_T44 l0 x11_1).f0.f2)⟩ : S24), (⟨((rd_T44 l0 x11_1).f1.f0), ((rd_T44 l0 x11_1).f1.f1), ((rd_T44 l0 x11_1).f1.f2)⟩ : S24)⟩ : S44)]) l0 (l0.length : Int) (wrap64 (x11_1 + 1))) else (none)) = some r := by rw [if_neg (show ¬ (false = true) by decide)] at H; exact H
                      clear H
                      have H := H1
                      clear H1
                      by_cases c44 : x3_1.length < 2932031007402
                      · rw [if_pos c44] at H
                        have LMc44 := Aside0.mk c44
                        clear c44
                        obtain ⟨y218, hy218⟩ : ∃ y_ : List (S44), y_ = (x3_1 ++ [(⟨(⟨((rd_T44 l0 x11_1).f0.f0), ((rd_T44 l0 x11_1).f0.f1), ((rd_T44 l0 x11_1).f0.f2)⟩ : S24), (⟨((rd_T44 l0 x11_1).f1.f0), ((rd_T44 l0 x11_1).f1.f1), ((rd_T44 l0 x11_1).f1.f2)⟩ : S24)⟩ : S44)]) := ⟨_, rfl⟩
                        replace H : (glossatorref3_Reduction.l0 k2 l0 y218 l0 (l0.length : Int) (wrap64 (x11_1 + 1))) = some r := by first | (rw [hy218]; with_reducible exact H) | (have H2_ := (Option.bind_some _ _).symm.trans H; rw [hy218]; with_reducible exact H2_) | (have H2_ := (Option.bind_some _ _).symm.trans H; with_reducible exact H2_) | with_reducible exact H | (rw [hy218]; exact H) | exact H
                        have Ny218 := Aside0.mk hy218
                        clear hy218
                        have H' := Aside0.mk H
                        clear H
                        have hcz45_0 : wr.cell? ⟨gb210, 0, none⟩ = some (.int .i64 ((rd_T44 l0 x11_1).f0.f0)) := (blk_cell BK210.out 0).trans rfl
                        have hcz45_1 : wr.cell? ⟨gb210, 1, none⟩ = some (.int .i64 ((rd_T44 l0 x11_1).f0.f1)) := (blk_cell BK210.out 1).trans rfl
                        have hcz45_2 : wr.cell? ⟨gb210, 2, none⟩ = some (.int .i64 ((rd_T44 l0 x11_1).f0.f2)) := (blk_cell BK210.out 2).trans rfl
                        have hcz45_3 : wr.cell? ⟨gb210, 3, none⟩ = some (.int .i64 ((rd_T44 l0 x11_1).f1.f0)) := (blk_cell BK210.out 3).trans rfl
                        have hcz45_4 : wr.cell? ⟨gb210, 4, none⟩ = some (.int .i64 ((rd_T44 l0 x11_1).f1.f1)) := (blk_cell BK210.out 4).trans rfl
                        have hcz45_5 : wr.cell? ⟨gb210, 5, none⟩ = some (.int .i64 ((rd_T44 l0 x11_1).f1.f2)) := (blk_cell BK210.out 5).trans rfl
                        have hfz45_0 := blk_frozen BK210.out 0
                        have hfz45_1 := blk_frozen BK210.out 1
                        have hfz45_2 := blk_frozen BK210.out 2
                        have hfz45_3 := blk_frozen BK210.out 3
                        have hfz45_4 := blk_frozen BK210.out 4
                        have hfz45_5 := blk_frozen BK210.out 5
                        obtain ⟨Ao46, co46, eo46⟩ := Kd.R_slice HO_3.out
                        subst eo46
                        go_wp2_with (first | (go_at_call 35; (with_reducible refine (api_QEdge_35.calls k2 _ _ x3_1 ((rd_T44 l0 x11_1).f0.f0) ((rd_T44 l0 x11_1).f0.f1) ((rd_T44 l0 x11_1).f0.f2) ((rd_T44 l0 x11_1).f1.f0) ((rd_T44 l0 x11_1).f1.f1) ((rd_T44 l0 x11_1).f1.f2) false _ ?side1 ?side2 A39.out).mono ?_); (case side1 => repeat (first | exact (Kd.R_reads' HO_3.out).2.2 | (with_reducible refine Kd.C_alloc ?_ _) | (with_reducible refine Kd.C_drewN ?_ _) | (with_reducible refine Kd.C_drew ?_))); (case side2 => exact (Kd.R_reads' HO_3.out).2.1); rintro e w47 ⟨rfl, hb⟩; have n0_ := Aside0.mk (Kd.R_below (by (with_reducible repeat (first | apply Kd.R_alloc | apply Kd.R_drewN | apply Kd.R_drew)); exact HO_3.out) hb); have n1_ := Aside0.mk (blk_below (g := gb210) (o := .cells #[.int .i64 ((rd_T44 l0 x11_1).f0.f0), .int .i64 ((rd_T44 l0 x11_1).f0.f1), .int .i64 ((rd_T44 l0 x11_1).f0.f2), .int .i64 ((rd_T44 l0 x11_1).f1.f0), .int .i64 ((rd_T44 l0 x11_1).f1.f1), .int .i64 ((rd_T44 l0 x11_1).f1.f2)] 44 (0, 0)) (by (with_reducible repeat (first | refine blk_drewN ?_ _ | refine blk_drew ?_ | refine blk_alloc ?_ _)); exact BK210.out) hb); have n2_ := Aside0.mk (below_step (by repeat (first | (with_reducible first | exact HB.out | apply below_alloc | apply pw_below_drewN | apply below_drew1 | refine below_set ?_ GE210.out) | exact HB.out)) hb); clear HO_3; clear BK210; clear HB; have HO_3 := n0_; have BK210 := n1_; have HB := n2_; clear n0_ n1_ n2_; (try clear hb); (try clear hb2); (try clear hk); (try clear hi); have hcz48_0 : w47.cell? ⟨gb210, 0, none⟩ = some (.int .i64 ((rd_T44 l0 x11_1).f0.f0)) := (blk_cell BK210.out 0).trans rfl; have hcz48_1 : w47.cell? ⟨gb210, 1, none⟩ = some (.int .i64 ((rd_T44 l0 x11_1).f0.f1)) := (blk_cell BK210.out 1).trans rfl; have hcz48_2 : w47.cell? ⟨gb210, 2, none⟩ = some (.int .i64 ((rd_T44 l0 x11_1).f0.f2)) := (blk_cell BK210.out 2).trans rfl; have hcz48_3 : w47.cell? ⟨gb210, 3, none⟩ = some (.int .i64 ((rd_T44 l0 x11_1).f1.f0)) := (blk_cell BK210.out 3).trans rfl; have hcz48_4 : w47.cell? ⟨gb210, 4, none⟩ = some (.int .i64 ((rd_T44 l0 x11_1).f1.f1)) := (blk_cell BK210.out 4).trans rfl; have hcz48_5 : w47.cell? ⟨gb210, 5, none⟩ = some (.int .i64 ((rd_T44 l0 x11_1).f1.f2)) := (blk_cell BK210.out 5).trans rfl; have hfz48_0 := blk_frozen BK210.out 0; have hfz48_1 := blk_frozen BK210.out 1; have hfz48_2 := blk_frozen BK210.out 2; have hfz48_3 := blk_frozen BK210.out 3; have hfz48_4 := blk_frozen BK210.out 4; have hfz48_5 := blk_frozen BK210.out 5) | ((with_reducible refine gate_builtin (b := .append) (xs := #[.tmp 54, .tmp 56]) rfl ?_); at_builtin; refine Kd.R_append k44 (w0 := w) w.heap.size rfl (.tmp 54) (.tmp 56) 22 44 (.agg #[(.int .i64 0), (.int .i64 0), (.int .i64 0), (.int .i64 0), (.int .i64 0), (.int .i64 0)]) 48 rfl Try.underlying22 info44 rfl (by decide) (by omega) (.slice Ao46 x3_1.length co46) x3_1 (⟨(⟨((rd_T44 l0 x11_1).f0.f0), ((rd_T44 l0 x11_1).f0.f1), ((rd_T44 l0 x11_1).f0.f2)⟩ : S24), (⟨((rd_T44 l0 x11_1).f1.f0), ((rd_T44 l0 x11_1).f1.f1), ((rd_T44 l0 x11_1).f1.f2)⟩ : S24)⟩ : S44) [.int .i64 ((rd_T44 l0 x11_1).f0.f0), .int .i64 ((rd_T44 l0 x11_1).f0.f1), .int .i64 ((rd_T44 l0 x11_1).f0.f2), .int .i64 ((rd_T44 l0 x11_1).f1.f0), .int .i64 ((rd_T44 l0 x11_1).f1.f1), .int .i64 ((rd_T44 l0 x11_1).f1.f2)] (fun k_ => k_ ≠ gb210) (fun _ => False) rfl rfl ?aP (fun _ hk => hk.elim) ?aF ?aO ?aB ?aS ?aL ?_; (case aP => exact k44_mkM _ _ _ (⟨(⟨((rd_T44 l0 x11_1).f0.f0), ((rd_T44 l0 x11_1).f0.f1), ((rd_T44 l0 x11_1).f0.f2)⟩ : S24), (⟨((rd_T44 l0 x11_1).f1.f0), ((rd_T44 l0 x11_1).f1.f1), ((rd_T44 l0 x11_1).f1.f2)⟩ : S24)⟩ : S44)); (case aB => exact (by repeat (first | (with_reducible first | exact HB.out | apply below_alloc | apply pw_below_drewN | apply below_drew1 | refine below_set ?_ GE210.out) | exact HB.out))); (case aF => exact (fun k_ hk => Kd.freshB (g := gb210) (o := .cells #[.int .i64 ((rd_T44 l0 x11_1).f0.f0), .int .i64 ((rd_T44 l0 x11_1).f0.f1), .int .i64 ((rd_T44 l0 x11_1).f0.f2), .int .i64 ((rd_T44 l0 x11_1).f1.f0), .int .i64 ((rd_T44 l0 x11_1).f1.f1), .int .i64 ((rd_T44 l0 x11_1).f1.f2)] 44 (0, 0)) (by (with_reducible repeat (first | refine blk_drewN ?_ _ | refine blk_drew ?_ | refine blk_alloc ?_ _)); exact BK210.out) k_ hk)); (case aO => exact (by (with_reducible repeat (first | apply Kd.R_alloc | apply Kd.R_drewN | apply Kd.R_drew)); exact HO_3.out)); (case aS => exact (below_size (by repeat (first | (with_reducible first | exact HB.out | apply below_alloc | apply pw_below_drewN | apply below_drew1 | refine below_set ?_ GE210.out) | exact HB.out)))); (case aL => have := LMc44.out; omega); intro v219 w49 ho hb hg hat; rw [← Ny218.out] at ho; have n0_ := Aside0.mk (blk_grown (g := gb210) (o := .cells #[.int .i64 ((rd_T44 l0 x11_1).f0.f0), .int .i64 ((rd_T44 l0 x11_1).f0.f1), .int .i64 ((rd_T44 l0 x11_1).f0.f2), .int .i64 ((rd_T44 l0 x11_1).f1.f0), .int .i64 ((rd_T44 l0 x11_1).f1.f1), .int .i64 ((rd_T44 l0 x11_1).f1.f2)] 44 (0, 0)) (by (with_reducible repeat (first | refine blk_drewN ?_ _ | refine blk_drew ?_ | refine blk_alloc ?_ _)); exact BK210.out) hg (Kd.R_away HO_3.out (fun _ hk => hk))); have n1_ := Aside0.mk (hb); have n2_ := Aside0.mk (ho); clear BK210; clear HB; clear HO_3; have BK210 := n0_; have HB := n1_; have HO220 := n2_; clear n0_ n1_ n2_; clear ho hb hg hat))
                        go_roundg k2
                        case measure => have := HK1.out; have := HK2.out; omega
                        case rel => exact ⟨(y218), (wrap64 (x11_1 + 1)), (by first | rfl | (simp; done) | (simp [*]; done) | (simp [isEmpty_bne]; done)), H', ⟨by have := HK1.out; have := HK2.out; omega⟩, ⟨by (with_reducible repeat (first | apply Kd.R_alloc | apply Kd.R_drewN | apply Kd.R_drew)); exact Kd.R_mono HO220.out (fun _ hk => trivial)⟩, ⟨by repeat (first | (with_reducible first | exact HB.out | apply below_alloc | apply pw_below_drewN | apply below_drew1 | refine below_set ?_ GE210.out) | exact HB.out)⟩⟩
                      · rw [if_neg c44] at H
                        exact absurd H (by simp)
          · rw [if_neg c4] at H
            exact absurd H (by simp)
        · rw [if_neg c3] at H
          exact absurd H (by simp)
      · rw [if_neg c2] at H
        have c2b0 : decide (x11_1 < (l0.length : Int)) = false := decide_eq_false c2
        clear c2
        obtain rfl := Option.some.inj H
        go_wp2
        go_ret
        exact ⟨_, by first | rfl | (simp [errW_none, errW_some] <;> rfl) | (simp [*, errW_none, errW_some] <;> rfl), by (with_reducible repeat (first | apply Kd.R_alloc | apply Kd.R_drewN | apply Kd.R_drew)); exact HO_3.out, by repeat (first | (with_reducible first | exact HB.out | apply below_alloc | apply pw_below_drewN | apply below_drew1) | exact HB.out)⟩

end Go.Proofs.Ytofonbfpjfabbaa.QDepgraphReduction
