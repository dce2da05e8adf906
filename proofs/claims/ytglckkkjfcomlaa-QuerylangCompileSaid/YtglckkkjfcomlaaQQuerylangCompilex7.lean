-- Written by gen.py (this repo's wip/), which runs the kit's print.py with more arms. Lean checks it.
import Derived.Test.YtglckkkjfcomlaaQQuerylangCompilex0
import Derived.Test.YtglckkkjfcomlaaQQuerylangCompilex6
namespace Go.Proofs.Ytglckkkjfcomlaa.QQuerylangCompile
open Go.RowKit Go.Proofs.YtglckkkjfcomlaaW.PrintWords Go.Proofs.YtglckkkjfcomlaaW.PrintLast Go.Proofs.YtglckkkjfcomlaaW.PrintMore
attribute [local go_sem] max2_int min2_int max_two min_two max_three min_three max_four min_four   -- for this text's walks alone
set_option linter.unusedVariables false
set_option linter.unusedSimpArgs false

private theorem isEmpty_bne {α : Type} [BEq α] (l : List α) : (l != []) = !l.isEmpty := by cases l <;> rfl

/-! ### glossatorref3_CheckProgram: function 19 -/
mutual
def glossatorref3_CheckProgram.j0 : Nat → Bool → Int → List (List (S160)) → Option (Int)
  | 0, _, _, _ => none
  | k + 1, x3, x142000, x142001 => glossatorref3_CheckProgram.l0 k x3 x142001 (x142001.length : Int) 0 x142000 x142001
def glossatorref3_CheckProgram.l0 : Nat → Bool → List (List (S160)) → Int → Int → Int → List (List (S160)) → Option (Int)
  | 0, _, _, _, _, _, _ => none
  | k + 1, x3, x23, x24, x25, x142000, x142001 => if x25 < x24 then (if 0 ≤ x25 then (if x25 < (x23.length : Int) then (if x3 = true then (glossatorref3_CheckProgram.l0 k true x23 x24 (wrap64 (x25 + 1)) x142000 x142001) else (glossatorref3_CheckProgram.l0 k (decide (((rd_L2 x23 x25).length : Int) > 20)) x23 x24 (wrap64 (x25 + 1)) x142000 x142001)) else (none)) else (none)) else (if x3 = true then (some 2) else (if x142000 < 0 then (some 1) else (glossatorref3_CheckProgram.l1 k x142001 (x142001.length : Int) 0 x142000 x142001)))
def glossatorref3_CheckProgram.l1 : Nat → List (List (S160)) → Int → Int → Int → List (List (S160)) → Option (Int)
  | 0, _, _, _, _, _ => none
  | k + 1, x41, x42, x43, x142000, x142001 => if x43 < x42 then (if 0 ≤ x43 then (if x43 < (x41.length : Int) then (glossatorref3_CheckProgram.l2 k x43 0 x41 x42 x43 (rd_L2 x41 x43) ((rd_L2 x41 x43).length : Int) 0 x142000 x142001) else (none)) else (none)) else (some 0)
def glossatorref3_CheckProgram.l2 : Nat → Int → Int → List (List (S160)) → Int → Int → List (S160) → Int → Int → Int → List (List (S160)) → Option (Int)
  | 0, _, _, _, _, _, _, _, _, _, _ => none
  | k + 1, x6, x8, x41, x42, x43, x48, x49, x50, x142000, x142001 => if x50 < x49 then (if 0 ≤ x50 then (if x50 < (x48.length : Int) then (if ((rd_T160 x48 x50).f0) < 1 then (glossatorref3_CheckProgram.j4 k x6 x8 x41 x42 x43 x48 x49 x50 true x142000 x142001 ((rd_T160 x48 x50).f0) ((rd_T160 x48 x50).f1) ((rd_T160 x48 x50).f2)) else (glossatorref3_CheckProgram.j4 k x6 x8 x41 x42 x43 x48 x49 x50 (decide (((rd_T160 x48 x50).f0) > 11)) x142000 x142001 ((rd_T160 x48 x50).f0) ((rd_T160 x48 x50).f1) ((rd_T160 x48 x50).f2))) else (none)) else (none)) else (if x8 = 1 then (glossatorref3_CheckProgram.l1 k x41 x42 (wrap64 (x43 + 1)) x142000 x142001) else (some 3))
def glossatorref3_CheckProgram.j4 : Nat → Int → Int → List (List (S160)) → Int → Int → List (S160) → Int → Int → Bool → Int → List (List (S160)) → Int → Int → Int → Option (Int)
  | 0, _, _, _, _, _, _, _, _, _, _, _, _, _, _ => none
  | k + 1, x6, x8, x41, x42, x43, x48, x49, x50, x61, x142000, x142001, x146000, x146001, x146002 => if x61 = true then (some 7) else ((glossatorref3_effect.f x142000 x142001 x6 x146000 x146001 x146002).bind fun bt146 => (if bt146.2 = true then (if bt146.1 > x8 then (some 3) else (glossatorref3_CheckProgram.l2 k x6 (wrap64 ((wrap64 (x8 - bt146.1)) + 1)) x41 x42 x43 x48 x49 (wrap64 (x50 + 1)) x142000 x142001)) else (some 3)))
end
def glossatorref3_CheckProgram.f (k : Nat) (a0_0 : Int) (l0_1 : List (List (S160))) : Option (Int) := if a0_0 > 40 then (glossatorref3_CheckProgram.j0 k true a0_0 l0_1) else (glossatorref3_CheckProgram.j0 k (decide ((l0_1.length : Int) > 40)) a0_0 l0_1)
theorem glossatorref3_CheckProgram.mono_l : ∀ k, (∀ y0 y1 y2, LeO (glossatorref3_CheckProgram.j0 k y0 y1 y2) (glossatorref3_CheckProgram.j0 (k + 1) y0 y1 y2)) ∧ (∀ y0 y1 y2 y3 y4 y5, LeO (glossatorref3_CheckProgram.l0 k y0 y1 y2 y3 y4 y5) (glossatorref3_CheckProgram.l0 (k + 1) y0 y1 y2 y3 y4 y5)) ∧ (∀ y0 y1 y2 y3 y4, LeO (glossatorref3_CheckProgram.l1 k y0 y1 y2 y3 y4) (glossatorref3_CheckProgram.l1 (k + 1) y0 y1 y2 y3 y4)) ∧ (∀ y0 y1 y2 y3 y4 y5 y6 y7 y8 y9, LeO (glossatorref3_CheckProgram.l2 k y0 y1 y2 y3 y4 y5 y6 y7 y8 y9) (glossatorref3_CheckProgram.l2 (k + 1) y0 y1 y2 y3 y4 y5 y6 y7 y8 y9)) ∧ (∀ y0 y1 y2 y3 y4 y5 y6 y7 y8 y9 y10 y11 y12 y13, LeO (glossatorref3_CheckProgram.j4 k y0 y1 y2 y3 y4 y5 y6 y7 y8 y9 y10 y11 y12 y13) (glossatorref3_CheckProgram.j4 (k + 1) y0 y1 y2 y3 y4 y5 y6 y7 y8 y9 y10 y11 y12 y13))
  | 0 => ⟨fun _ _ _ r h => by simp [glossatorref3_CheckProgram.j0] at h, fun _ _ _ _ _ _ r h => by simp [glossatorref3_CheckProgram.l0] at h, fun _ _ _ _ _ r h => by simp [glossatorref3_CheckProgram.l1] at h, fun _ _ _ _ _ _ _ _ _ _ r h => by simp [glossatorref3_CheckProgram.l2] at h, fun _ _ _ _ _ _ _ _ _ _ _ _ _ _ r h => by simp [glossatorref3_CheckProgram.j4] at h⟩
  | k + 1 => by
    obtain ⟨ih0, ih1, ih2, ih3, ih4⟩ := glossatorref3_CheckProgram.mono_l k
    refine ⟨?_, ?_, ?_, ?_, ?_⟩
    · intro y0 y1 y2
      unfold glossatorref3_CheckProgram.j0
      repeat' first
      | (with_reducible exact ih0 _ _ _)
      | (with_reducible exact ih1 _ _ _ _ _ _)
      | (with_reducible exact ih2 _ _ _ _ _)
      | (with_reducible exact ih3 _ _ _ _ _ _ _ _ _ _)
      | (with_reducible exact ih4 _ _ _ _ _ _ _ _ _ _ _ _ _ _)
      | (with_reducible exact LeO.refl _)
      | (with_reducible exact LeO.none _)
      | (with_reducible refine LeO.ite ?_ ?_)
      | (with_reducible refine LeO.bind ?_ (fun _ => ?_))
      | exact ih0 _ _ _
      | exact ih1 _ _ _ _ _ _
      | exact ih2 _ _ _ _ _
      | exact ih3 _ _ _ _ _ _ _ _ _ _
      | exact ih4 _ _ _ _ _ _ _ _ _ _ _ _ _ _
      | exact LeO.none _
      | refine LeO.ite ?_ ?_
      | refine LeO.bind ?_ (fun _ => ?_)
    · intro y0 y1 y2 y3 y4 y5
      unfold glossatorref3_CheckProgram.l0
      repeat' first
      | (with_reducible exact ih0 _ _ _)
      | (with_reducible exact ih1 _ _ _ _ _ _)
      | (with_reducible exact ih2 _ _ _ _ _)
      | (with_reducible exact ih3 _ _ _ _ _ _ _ _ _ _)
      | (with_reducible exact ih4 _ _ _ _ _ _ _ _ _ _ _ _ _ _)
      | (with_reducible exact LeO.refl _)
      | (with_reducible exact LeO.none _)
      | (with_reducible refine LeO.ite ?_ ?_)
      | (with_reducible refine LeO.bind ?_ (fun _ => ?_))
      | exact ih0 _ _ _
      | exact ih1 _ _ _ _ _ _
      | exact ih2 _ _ _ _ _
      | exact ih3 _ _ _ _ _ _ _ _ _ _
      | exact ih4 _ _ _ _ _ _ _ _ _ _ _ _ _ _
      | exact LeO.none _
      | refine LeO.ite ?_ ?_
      | refine LeO.bind ?_ (fun _ => ?_)
    · intro y0 y1 y2 y3 y4
      unfold glossatorref3_CheckProgram.l1
      repeat' first
      | (with_reducible exact ih0 _ _ _)
      | (with_reducible exact ih1 _ _ _ _ _ _)
      | (with_reducible exact ih2 _ _ _ _ _)
      | (with_reducible exact ih3 _ _ _ _ _ _ _ _ _ _)
      | (with_reducible exact ih4 _ _ _ _ _ _ _ _ _ _ _ _ _ _)
      | (with_reducible exact LeO.refl _)
      | (with_reducible exact LeO.none _)
      | (with_reducible refine LeO.ite ?_ ?_)
      | (with_reducible refine LeO.bind ?_ (fun _ => ?_))
      | exact ih0 _ _ _
      | exact ih1 _ _ _ _ _ _
      | exact ih2 _ _ _ _ _
      | exact ih3 _ _ _ _ _ _ _ _ _ _
      | exact ih4 _ _ _ _ _ _ _ _ _ _ _ _ _ _
      | exact LeO.none _
      | refine LeO.ite ?_ ?_
      | refine LeO.bind ?_ (fun _ => ?_)
    · intro y0 y1 y2 y3 y4 y5 y6 y7 y8 y9
      unfold glossatorref3_CheckProgram.l2
      repeat' first
      | (with_reducible exact ih0 _ _ _)
      | (with_reducible exact ih1 _ _ _ _ _ _)
      | (with_reducible exact ih2 _ _ _ _ _)
      | (with_reducible exact ih3 _ _ _ _ _ _ _ _ _ _)
      | (with_reducible exact ih4 _ _ _ _ _ _ _ _ _ _ _ _ _ _)
      | (with_reducible exact LeO.refl _)
      | (with_reducible exact LeO.none _)
      | (with_reducible refine LeO.ite ?_ ?_)
      | (with_reducible refine LeO.bind ?_ (fun _ => ?_))
      | exact ih0 _ _ _
      | exact ih1 _ _ _ _ _ _
      | exact ih2 _ _ _ _ _
      | exact ih3 _ _ _ _ _ _ _ _ _ _
      | exact ih4 _ _ _ _ _ _ _ _ _ _ _ _ _ _
      | exact LeO.none _
      | refine LeO.ite ?_ ?_
      | refine LeO.bind ?_ (fun _ => ?_)
    · intro y0 y1 y2 y3 y4 y5 y6 y7 y8 y9 y10 y11 y12 y13
      unfold glossatorref3_CheckProgram.j4
      repeat' first
      | (with_reducible exact ih0 _ _ _)
      | (with_reducible exact ih1 _ _ _ _ _ _)
      | (with_reducible exact ih2 _ _ _ _ _)
      | (with_reducible exact ih3 _ _ _ _ _ _ _ _ _ _)
      | (with_reducible exact ih4 _ _ _ _ _ _ _ _ _ _ _ _ _ _)
      | (with_reducible exact LeO.refl _)
      | (with_reducible exact LeO.none _)
      | (with_reducible refine LeO.ite ?_ ?_)
      | (with_reducible refine LeO.bind ?_ (fun _ => ?_))
      | exact ih0 _ _ _
      | exact ih1 _ _ _ _ _ _
      | exact ih2 _ _ _ _ _
      | exact ih3 _ _ _ _ _ _ _ _ _ _
      | exact ih4 _ _ _ _ _ _ _ _ _ _ _ _ _ _
      | exact LeO.none _
      | refine LeO.ite ?_ ?_
      | refine LeO.bind ?_ (fun _ => ?_)
theorem glossatorref3_CheckProgram.mono : ∀ a0 a1 k, LeO (glossatorref3_CheckProgram.f k a0 a1) (glossatorref3_CheckProgram.f (k + 1) a0 a1) := by
  intro a0 a1 k
  obtain ⟨ih0, ih1, ih2, ih3, ih4⟩ := glossatorref3_CheckProgram.mono_l k
  unfold glossatorref3_CheckProgram.f
  repeat' first
      | (with_reducible exact ih0 _ _ _)
      | (with_reducible exact ih1 _ _ _ _ _ _)
      | (with_reducible exact ih2 _ _ _ _ _)
      | (with_reducible exact ih3 _ _ _ _ _ _ _ _ _ _)
      | (with_reducible exact ih4 _ _ _ _ _ _ _ _ _ _ _ _ _ _)
      | (with_reducible exact LeO.refl _)
      | (with_reducible exact LeO.none _)
      | (with_reducible refine LeO.ite ?_ ?_)
      | (with_reducible refine LeO.bind ?_ (fun _ => ?_))
      | exact ih0 _ _ _
      | exact ih1 _ _ _ _ _ _
      | exact ih2 _ _ _ _ _
      | exact ih3 _ _ _ _ _ _ _ _ _ _
      | exact ih4 _ _ _ _ _ _ _ _ _ _ _ _ _ _
      | exact LeO.none _
      | refine LeO.ite ?_ ?_
      | refine LeO.bind ?_ (fun _ => ?_)
set_option maxHeartbeats 8000000 in
set_option maxRecDepth 100000 in
theorem glossatorref3_CheckProgram.calls (k : Nat) (a0_0 : Int) (A0_1 : Option Addr) (c0_1 : Nat) (l0_1 : List (List (S160))) (r : Int) (w : World) (hr0_1 : Kd.C (Kd.slice 160 k160) w A0_1 l0_1.length l0_1) (hc0_1 : l0_1.length ≤ c0_1) (h : glossatorref3_CheckProgram.f k a0_0 l0_1 = some r) :
    Calls Try.prog 19 #[.agg #[.int .i64 a0_0, .slice A0_1 l0_1.length c0_1]] w fun e w' => e = .returned (.int .i64 r) ∧ Below w.heap.size w w' := by
  have hu24 := Try.underlying24
  have hu160 := Try.underlying160
  have HR0_1 := Aside0.mk hr0_1
  have HC0_1 := Aside0.mk hc0_1
  clear hr0_1 hc0_1
  have HB := Aside0.mk (Below.refl w.heap.size w)
  have H : (if a0_0 > 40 then (glossatorref3_CheckProgram.j0 k true a0_0 l0_1) else (glossatorref3_CheckProgram.j0 k (decide ((l0_1.length : Int) > 40)) a0_0 l0_1)) = some r := h
  clear h
  have HC2 := Aside0.mk H
  clear H
  go_enter Try.func19, Try.ntmps19
  go_upto_region 1 with (first | ((with_reducible refine gate_dst (N := 1) rfl ?_); (try (refine gate_guard (by rfl) ?_; dsimp only)); refine box_event ?hg (N := 1) ?hd (cs := #[.int .i64 a0_0, .slice A0_1 l0_1.length c0_1]) (t := 24) ?hr ?_; (case hd => rfl); (case hg => rfl); (case hr => first | (go_simp; done) | (go_simp; rfl)); intro gb141 hg w3 hbox hb; have n0_ := Aside0.mk (below_step (by repeat (first | (with_reducible first | exact HB.out | apply below_alloc | apply pw_below_drewN | apply below_drew1) | exact HB.out)) hb); have n1_ := Aside0.mk (hbox); have n2_ := Aside0.mk ((by rw [hg]; exact (below_size (by repeat (first | (with_reducible first | exact HB.out | apply below_alloc | apply pw_below_drewN | apply below_drew1) | exact HB.out))) : w.heap.size ≤ gb141)); have n3_ := Aside0.mk ((by rw [hg]; exact (below_size (by repeat (first | (with_reducible first | exact HB.out | apply below_alloc | apply pw_below_drewN | apply below_drew1) | exact HB.out))) : w.heap.size ≤ gb141)); clear HB; have HB := n0_; have BK141 := n1_; have GW141 := n2_; have GE141 := n3_; clear n0_ n1_ n2_ n3_; clear hb hbox hg))
  (try simp only [Act.put, List.setIfInBounds_toArray, List.set_cons_zero, List.set_cons_succ])
  go_cut [3] (fun v3 wc => ∃ (kq : Nat) (x3_1 : Bool), v3 = .bool x3_1 ∧ Aside0 (glossatorref3_CheckProgram.j0 kq x3_1 a0_0 l0_1 = some r) ∧ Aside0 (kq ≤ k) ∧ Aside0 (wc.heap[gb141]? = some (.cells #[.int .i64 a0_0, (.slice A0_1 l0_1.length c0_1)] 24 (0, 0))) ∧ Aside0 (Below w.heap.size w wc))
  case first =>
    have H := HC2.out
    clear HC2
    by_cases c4 : a0_0 > 40
    · rw [if_pos c4] at H
      have c4b0 : decide (40 < a0_0) = true := decide_eq_true c4
      clear c4
      (first | rw [c4b0] | (simp only [i64_w, i32_w]; rw [c4b0]) | skip)
      have H' := Aside0.mk H
      clear H
      have hcz5_0 : w3.cell? ⟨gb141, 0, none⟩ = some (.int .i64 a0_0) := (blk_cell BK141.out 0).trans rfl
      have hcz5_1 : w3.cell? ⟨gb141, 1, none⟩ = some (.slice A0_1 l0_1.length c0_1) := (blk_cell BK141.out 1).trans rfl
      have hfz5_0 := blk_frozen BK141.out 0
      have hfz5_1 := blk_frozen BK141.out 1
      go_wp2
      go_meet
      case rel => exact ⟨_, (true), (by first | rfl | (simp; done) | (simp [*]; done) | (simp [isEmpty_bne]; done)), H', ⟨by first | omega | exact Nat.le_refl _⟩, ⟨by (with_reducible repeat (first | refine blk_drewN ?_ _ | refine blk_drew ?_ | refine blk_alloc ?_ _)); exact BK141.out⟩, ⟨by repeat (first | (with_reducible first | exact HB.out | apply below_alloc | apply pw_below_drewN | apply below_drew1 | refine below_set ?_ GE141.out) | exact HB.out)⟩⟩
    · rw [if_neg c4] at H
      have c4b0 : decide (40 < a0_0) = false := decide_eq_false c4
      clear c4
      (first | rw [c4b0] | (simp only [i64_w, i32_w]; rw [c4b0]) | skip)
      have H' := Aside0.mk H
      clear H
      have hcz6_0 : w3.cell? ⟨gb141, 0, none⟩ = some (.int .i64 a0_0) := (blk_cell BK141.out 0).trans rfl
      have hcz6_1 : w3.cell? ⟨gb141, 1, none⟩ = some (.slice A0_1 l0_1.length c0_1) := (blk_cell BK141.out 1).trans rfl
      have hfz6_0 := blk_frozen BK141.out 0
      have hfz6_1 := blk_frozen BK141.out 1
      go_wp2
      go_meet
      case rel => exact ⟨_, (decide ((l0_1.length : Int) > 40)), (by first | rfl | (simp; done) | (simp [*]; done) | (simp [isEmpty_bne]; done)), H', ⟨by first | omega | exact Nat.le_refl _⟩, ⟨by (with_reducible repeat (first | refine blk_drewN ?_ _ | refine blk_drew ?_ | refine blk_alloc ?_ _)); exact BK141.out⟩, ⟨by repeat (first | (with_reducible first | exact HB.out | apply below_alloc | apply pw_below_drewN | apply below_drew1 | refine below_set ?_ GE141.out) | exact HB.out)⟩⟩
  case rest =>
    clear HC2
    try clear c1
    try clear p2
    try clear c4
    try clear c4b0
    try clear hcz5_0
    try clear hcz5_1
    try clear hcz6_0
    try clear hcz6_1
    try clear hfz5_0
    try clear hfz5_1
    try clear hfz6_0
    try clear hfz6_1
    obtain ⟨kq, x3_1, rfl, HA, HJ1, BK141, HB⟩ := hcut
    cases kq with
    | zero => exact absurd HA.out (by simp [glossatorref3_CheckProgram.j0])
    | succ kj1 =>
      have H := HA.out
      clear HA
      simp only [glossatorref3_CheckProgram.j0] at H
      have H' := Aside0.mk H
      clear H
      have hcz7_0 : wc.cell? ⟨gb141, 0, none⟩ = some (.int .i64 a0_0) := (blk_cell BK141.out 0).trans rfl
      have hcz7_1 : wc.cell? ⟨gb141, 1, none⟩ = some (.slice A0_1 l0_1.length c0_1) := (blk_cell BK141.out 1).trans rfl
      have hfz7_0 := blk_frozen BK141.out 0
      have hfz7_1 := blk_frozen BK141.out 1
      go_wp2
      go_loopg [3, 25] kj1 (fun kq v3 v25 w' => ∃ (x3_2 : Bool) (x25_2 : Int), v3 = .bool x3_2 ∧ v25 = .int .i64 x25_2 ∧ Aside0 (glossatorref3_CheckProgram.l0 kq x3_2 l0_1 (l0_1.length : Int) x25_2 a0_0 l0_1 = some r) ∧ Aside0 (kq ≤ kj1) ∧ Aside0 (w'.heap[gb141]? = some (.cells #[.int .i64 a0_0, (.slice A0_1 l0_1.length c0_1)] 24 (0, 0))) ∧ Aside0 (Below w.heap.size w w'))
      case atStart => exact ⟨(x3_1), (0), (by first | rfl | (simp; done) | (simp [*]; done) | (simp [isEmpty_bne]; done)), (by first | rfl | (simp; done) | (simp [*]; done) | (simp [isEmpty_bne]; done)), H', ⟨Nat.le_refl _⟩, ⟨by (with_reducible repeat (first | refine blk_drewN ?_ _ | refine blk_drew ?_ | refine blk_alloc ?_ _)); exact BK141.out⟩, ⟨by repeat (first | (with_reducible first | exact HB.out | apply below_alloc | apply pw_below_drewN | apply below_drew1 | refine below_set ?_ GE141.out) | exact HB.out)⟩⟩
      case round =>
        clear H'
        try clear c1
        try clear p2
        try clear c4
        try clear c4b0
        try clear hcz5_0
        try clear hcz5_1
        try clear hcz6_0
        try clear hcz6_1
        try clear hcz7_0
        try clear hcz7_1
        try clear hfz5_0
        try clear hfz5_1
        try clear hfz6_0
        try clear hfz6_1
        try clear hfz7_0
        try clear hfz7_1
        try clear p2
        obtain ⟨x3_2, x25_2, rfl, rfl, HA, HK2, BK141, HB⟩ := hrel
        cases gk with
        | zero => exact absurd HA.out (by simp [glossatorref3_CheckProgram.l0])
        | succ k2 =>
          have H := HA.out
          clear HA
          simp only [glossatorref3_CheckProgram.l0] at H
          by_cases c8 : x25_2 < (l0_1.length : Int)
          · rw [if_pos c8] at H
            have c8b0 : decide (x25_2 < (l0_1.length : Int)) = true := decide_eq_true c8
            clear c8
            by_cases c9 : 0 ≤ x25_2
            · rw [if_pos c9] at H
              have c9b0 : decide (0 ≤ x25_2) = true := decide_eq_true c9
              clear c9
              by_cases c10 : x25_2 < (l0_1.length : Int)
              · rw [if_pos c10] at H
                have c10b0 : decide (x25_2 < (l0_1.length : Int)) = true := decide_eq_true c10
                clear c10
                by_cases c11 : x3_2 = true
                · subst c11
                  have H1 : (glossatorref3_CheckProgram.l0 k2 true l0_1 (l0_1.length : Int) (wrap64 (x25_2 + 1)) a0_0 l0_1) = some r := by rw [if_pos rfl] at H; exact H
                  clear H
                  have H := H1
                  clear H1
                  have H' := Aside0.mk H
                  clear H
                  have p142 : 0 ≤ (x25_2 : Int) := of_decide_eq_true (by first | (with_reducible assumption) | assumption)
                  have q142 : x25_2 < (l0_1.length : Int) := of_decide_eq_true (by first | (with_reducible assumption) | assumption)
                  obtain ⟨ad142, A142_0, c142_0, e142, hx142_0, hl142_0, hi142_0⟩ := at_L2 HR0_1.out x25_2 p142 q142
                  cases e142
                  replace hx142_0 := (HB.out.cell (World.block_lt_of_cell? w _ hx142_0)).trans hx142_0
                  have HR142_0 := Aside0.mk hi142_0
                  have HC142_0 := Aside0.mk hl142_0
                  clear hi142_0 hl142_0
                  replace p142 := eq_true p142
                  replace q142 := eq_true q142
                  go_wp2
                  go_roundg k2
                  case measure => have := HJ1.out; have := HK2.out; omega
                  case rel => exact ⟨(true), (wrap64 (x25_2 + 1)), (by first | rfl | (simp; done) | (simp [*]; done) | (simp [isEmpty_bne]; done)), (by first | rfl | (simp; done) | (simp [*]; done) | (simp [isEmpty_bne]; done)), H', ⟨by have := HJ1.out; have := HK2.out; omega⟩, ⟨by (with_reducible repeat (first | refine blk_drewN ?_ _ | refine blk_drew ?_ | refine blk_alloc ?_ _)); exact BK141.out⟩, ⟨by repeat (first | (with_reducible first | exact HB.out | apply below_alloc | apply pw_below_drewN | apply below_drew1 | refine below_set ?_ GE141.out) | exact HB.out)⟩⟩
                · replace c11 := Bool.eq_false_iff.mpr c11
                  subst c11
                  have H1 : (glossatorref3_CheckProgram.l0 k2 (decide (((rd_L2 l0_1 x25_2).length : Int) > 20)) l0_1 (l0_1.length : Int) (wrap64 (x25_2 + 1)) a0_0 l0_1) = some r := by rw [if_neg (show ¬ (false = true) by decide)] at H; exact H
                  clear H
                  have H := H1
                  clear H1
                  have H' := Aside0.mk H
                  clear H
                  have p142 : 0 ≤ (x25_2 : Int) := of_decide_eq_true (by first | (with_reducible assumption) | assumption)
                  have q142 : x25_2 < (l0_1.length : Int) := of_decide_eq_true (by first | (with_reducible assumption) | assumption)
                  obtain ⟨ad142, A142_0, c142_0, e142, hx142_0, hl142_0, hi142_0⟩ := at_L2 HR0_1.out x25_2 p142 q142
                  cases e142
                  replace hx142_0 := (HB.out.cell (World.block_lt_of_cell? w _ hx142_0)).trans hx142_0
                  have HR142_0 := Aside0.mk hi142_0
                  have HC142_0 := Aside0.mk hl142_0
                  clear hi142_0 hl142_0
                  replace p142 := eq_true p142
                  replace q142 := eq_true q142
                  go_wp2
                  go_roundg k2
                  case measure => have := HJ1.out; have := HK2.out; omega
                  case rel => exact ⟨(decide (((rd_L2 l0_1 x25_2).length : Int) > 20)), (wrap64 (x25_2 + 1)), (by first | rfl | (simp; done) | (simp [*]; done) | (simp [isEmpty_bne]; done)), (by first | rfl | (simp; done) | (simp [*]; done) | (simp [isEmpty_bne]; done)), H', ⟨by have := HJ1.out; have := HK2.out; omega⟩, ⟨by (with_reducible repeat (first | refine blk_drewN ?_ _ | refine blk_drew ?_ | refine blk_alloc ?_ _)); exact BK141.out⟩, ⟨by repeat (first | (with_reducible first | exact HB.out | apply below_alloc | apply pw_below_drewN | apply below_drew1 | refine below_set ?_ GE141.out) | exact HB.out)⟩⟩
              · rw [if_neg c10] at H
                exact absurd H (by simp)
            · rw [if_neg c9] at H
              exact absurd H (by simp)
          · rw [if_neg c8] at H
            have c8b0 : decide (x25_2 < (l0_1.length : Int)) = false := decide_eq_false c8
            clear c8
            by_cases c12 : x3_2 = true
            · subst c12
              have H1 : (some 2) = some r := by rw [if_pos rfl] at H; exact H
              clear H
              have H := H1
              clear H1
              obtain rfl := Option.some.inj H
              go_wp2
              go_ret
              exact ⟨by first | rfl | (simp [errW_none, errW_some] <;> rfl) | (simp [*, errW_none, errW_some] <;> rfl), by repeat (first | (with_reducible first | exact HB.out | apply below_alloc | apply pw_below_drewN | apply below_drew1 | refine below_set ?_ GE141.out) | exact HB.out)⟩
            · replace c12 := Bool.eq_false_iff.mpr c12
              subst c12
              have H1 : (if a0_0 < 0 then (some 1) else (glossatorref3_CheckProgram.l1 k2 l0_1 (l0_1.length : Int) 0 a0_0 l0_1)) = some r := by rw [if_neg (show ¬ (false = true) by decide)] at H; exact H
              clear H
              have H := H1
              clear H1
              by_cases c13 : a0_0 < 0
              · rw [if_pos c13] at H
                have c13b0 : decide (a0_0 < 0) = true := decide_eq_true c13
                clear c13
                obtain rfl := Option.some.inj H
                have hcz14_0 : wr.cell? ⟨gb141, 0, none⟩ = some (.int .i64 a0_0) := (blk_cell BK141.out 0).trans rfl
                have hcz14_1 : wr.cell? ⟨gb141, 1, none⟩ = some (.slice A0_1 l0_1.length c0_1) := (blk_cell BK141.out 1).trans rfl
                have hfz14_0 := blk_frozen BK141.out 0
                have hfz14_1 := blk_frozen BK141.out 1
                go_wp2
                go_ret
                exact ⟨by first | rfl | (simp [errW_none, errW_some] <;> rfl) | (simp [*, errW_none, errW_some] <;> rfl), by repeat (first | (with_reducible first | exact HB.out | apply below_alloc | apply pw_below_drewN | apply below_drew1 | refine below_set ?_ GE141.out) | exact HB.out)⟩
              · rw [if_neg c13] at H
                have c13b0 : decide (a0_0 < 0) = false := decide_eq_false c13
                clear c13
                have H' := Aside0.mk H
                clear H
                have hcz15_0 : wr.cell? ⟨gb141, 0, none⟩ = some (.int .i64 a0_0) := (blk_cell BK141.out 0).trans rfl
                have hcz15_1 : wr.cell? ⟨gb141, 1, none⟩ = some (.slice A0_1 l0_1.length c0_1) := (blk_cell BK141.out 1).trans rfl
                have hfz15_0 := blk_frozen BK141.out 0
                have hfz15_1 := blk_frozen BK141.out 1
                go_wp2
                go_loopg [43] k2 (fun kq v43 w' => ∃ (x43_3 : Int), v43 = .int .i64 x43_3 ∧ Aside0 (glossatorref3_CheckProgram.l1 kq l0_1 (l0_1.length : Int) x43_3 a0_0 l0_1 = some r) ∧ Aside0 (kq ≤ k2) ∧ Aside0 (w'.heap[gb141]? = some (.cells #[.int .i64 a0_0, (.slice A0_1 l0_1.length c0_1)] 24 (0, 0))) ∧ Aside0 (Below w.heap.size w w'))
                case atStart => exact ⟨(0), (by first | rfl | (simp; done) | (simp [*]; done) | (simp [isEmpty_bne]; done)), H', ⟨Nat.le_refl _⟩, ⟨by (with_reducible repeat (first | refine blk_drewN ?_ _ | refine blk_drew ?_ | refine blk_alloc ?_ _)); exact BK141.out⟩, ⟨by repeat (first | (with_reducible first | exact HB.out | apply below_alloc | apply pw_below_drewN | apply below_drew1 | refine below_set ?_ GE141.out) | exact HB.out)⟩⟩
                case round =>
                  clear H'
                  try clear c1
                  try clear p1
                  try clear q1
                  try clear hx1
                  try clear p2
                  try clear c4
                  try clear c4b0
                  try clear p6
                  try clear c8
                  try clear c8b0
                  try clear c9
                  try clear c9b0
                  try clear c10
                  try clear c10b0
                  try clear c11
                  try clear c12
                  try clear c13
                  try clear c13b0
                  try clear c14
                  try clear p14
                  try clear q14
                  try clear hx14
                  try clear hcz14_0
                  try clear hcz14_1
                  try clear hcz15_0
                  try clear hcz15_1
                  try clear hcz5_0
                  try clear hcz5_1
                  try clear hcz6_0
                  try clear hcz6_1
                  try clear hcz7_0
                  try clear hcz7_1
                  try clear hfz14_0
                  try clear hfz14_1
                  try clear hfz15_0
                  try clear hfz15_1
                  try clear hfz5_0
                  try clear hfz5_1
                  try clear hfz6_0
                  try clear hfz6_1
                  try clear hfz7_0
                  try clear hfz7_1
                  try clear hx142_0
                  try clear p142
                  try clear p2
                  try clear q142
                  obtain ⟨x43_3, rfl, HA, HK3, BK141, HB⟩ := hrel
                  cases gk with
                  | zero => exact absurd HA.out (by simp [glossatorref3_CheckProgram.l1])
                  | succ k3 =>
                    have H := HA.out
                    clear HA
                    simp only [glossatorref3_CheckProgram.l1] at H
                    by_cases c16 : x43_3 < (l0_1.length : Int)
                    · rw [if_pos c16] at H
                      have c16b0 : decide (x43_3 < (l0_1.length : Int)) = true := decide_eq_true c16
                      clear c16
                      by_cases c17 : 0 ≤ x43_3
                      · rw [if_pos c17] at H
                        have c17b0 : decide (0 ≤ x43_3) = true := decide_eq_true c17
                        clear c17
                        by_cases c18 : x43_3 < (l0_1.length : Int)
                        · rw [if_pos c18] at H
                          have c18b0 : decide (x43_3 < (l0_1.length : Int)) = true := decide_eq_true c18
                          clear c18
                          have H' := Aside0.mk H
                          clear H
                          have p143 : 0 ≤ (x43_3 : Int) := of_decide_eq_true (by first | (with_reducible assumption) | assumption)
                          have q143 : x43_3 < (l0_1.length : Int) := of_decide_eq_true (by first | (with_reducible assumption) | assumption)
                          obtain ⟨ad143, A143_0, c143_0, e143, hx143_0, hl143_0, hi143_0⟩ := at_L2 HR0_1.out x43_3 p143 q143
                          cases e143
                          replace hx143_0 := (HB.out.cell (World.block_lt_of_cell? w _ hx143_0)).trans hx143_0
                          have HR143_0 := Aside0.mk hi143_0
                          have HC143_0 := Aside0.mk hl143_0
                          clear hi143_0 hl143_0
                          replace p143 := eq_true p143
                          replace q143 := eq_true q143
                          go_wp2
                          go_loopg [8, 50] k3 (fun kq v8 v50 w' => ∃ (x8_4 : Int) (x50_4 : Int), v8 = .int .i64 x8_4 ∧ v50 = .int .i64 x50_4 ∧ Aside0 (glossatorref3_CheckProgram.l2 kq x43_3 x8_4 l0_1 (l0_1.length : Int) x43_3 (rd_L2 l0_1 x43_3) ((rd_L2 l0_1 x43_3).length : Int) x50_4 a0_0 l0_1 = some r) ∧ Aside0 (kq ≤ k3) ∧ Aside0 (w'.heap[gb141]? = some (.cells #[.int .i64 a0_0, (.slice (some ad143) l0_1.length c0_1)] 24 (0, 0))) ∧ Aside0 (Below w.heap.size w w'))
                          case atStart => exact ⟨(0), (0), (by first | rfl | (simp; done) | (simp [*]; done) | (simp [isEmpty_bne]; done)), (by first | rfl | (simp; done) | (simp [*]; done) | (simp [isEmpty_bne]; done)), H', ⟨Nat.le_refl _⟩, ⟨by (with_reducible repeat (first | refine blk_drewN ?_ _ | refine blk_drew ?_ | refine blk_alloc ?_ _)); exact BK141.out⟩, ⟨by repeat (first | (with_reducible first | exact HB.out | apply below_alloc | apply pw_below_drewN | apply below_drew1 | refine below_set ?_ GE141.out) | exact HB.out)⟩⟩
                          case round =>
                            clear H'
                            try clear c1
                            try clear p1
                            try clear q1
                            try clear hx1
                            try clear p2
                            try clear c4
                            try clear c4b0
                            try clear p6
                            try clear c8
                            try clear c8b0
                            try clear c9
                            try clear c9b0
                            try clear c10
                            try clear c10b0
                            try clear c11
                            try clear c12
                            try clear c13
                            try clear c13b0
                            try clear c14
                            try clear p14
                            try clear q14
                            try clear hx14
                            try clear c16
                            try clear c16b0
                            try clear c17
                            try clear c17b0
                            try clear c18
                            try clear c18b0
                            try clear hcz14_0
                            try clear hcz14_1
                            try clear hcz15_0
                            try clear hcz15_1
                            try clear hcz5_0
                            try clear hcz5_1
                            try clear hcz6_0
                            try clear hcz6_1
                            try clear hcz7_0
                            try clear hcz7_1
                            try clear hfz14_0
                            try clear hfz14_1
                            try clear hfz15_0
                            try clear hfz15_1
                            try clear hfz5_0
                            try clear hfz5_1
                            try clear hfz6_0
                            try clear hfz6_1
                            try clear hfz7_0
                            try clear hfz7_1
                            try clear hx142_0
                            try clear hx143_0
                            try clear p1
                            try clear p14
                            try clear p142
                            try clear p143
                            try clear p2
                            try clear p6
                            try clear q1
                            try clear q14
                            try clear q142
                            try clear q143
                            obtain ⟨x8_4, x50_4, rfl, rfl, HA, HK4, BK141, HB⟩ := hrel
                            cases gk with
                            | zero => exact absurd HA.out (by simp [glossatorref3_CheckProgram.l2])
                            | succ k4 =>
                              have H := HA.out
                              clear HA
                              simp only [glossatorref3_CheckProgram.l2] at H
                              by_cases c19 : x50_4 < ((rd_L2 l0_1 x43_3).length : Int)
                              · rw [if_pos c19] at H
                                have c19b0 : decide (x50_4 < ((rd_L2 l0_1 x43_3).length : Int)) = true := decide_eq_true c19
                                clear c19
                                by_cases c20 : 0 ≤ x50_4
                                · rw [if_pos c20] at H
                                  have c20b0 : decide (0 ≤ x50_4) = true := decide_eq_true c20
                                  clear c20
                                  by_cases c21 : x50_4 < ((rd_L2 l0_1 x43_3).length : Int)
                                  · rw [if_pos c21] at H
                                    have c21b0 : decide (x50_4 < ((rd_L2 l0_1 x43_3).length : Int)) = true := decide_eq_true c21
                                    clear c21
                                    have HC22 := Aside0.mk H
                                    clear H
                                    have p144 : 0 ≤ (x50_4 : Int) := of_decide_eq_true (by first | (with_reducible assumption) | assumption)
                                    have q144 : x50_4 < ((rd_L2 l0_1 x43_3).length : Int) := of_decide_eq_true (by first | (with_reducible assumption) | assumption)
                                    obtain ⟨ad144, e144, hx144_0, hx144_1, hx144_2⟩ := at_T160 HR143_0.out x50_4 p144 q144
                                    cases e144
                                    replace hx144_0 := (HB.out.cell (World.block_lt_of_cell? w _ hx144_0)).trans hx144_0
                                    replace hx144_1 := (HB.out.cell (World.block_lt_of_cell? w _ hx144_1)).trans hx144_1
                                    replace hx144_2 := (HB.out.cell (World.block_lt_of_cell? w _ hx144_2)).trans hx144_2
                                    replace p144 := eq_true p144
                                    replace q144 := eq_true q144
                                    go_upto_region 18 with (first | ((with_reducible refine gate_dst (N := 10) rfl ?_); (try (refine gate_guard (by rfl) ?_; dsimp only)); refine box_event ?hg (N := 10) ?hd (cs := #[.int .i64 0, .int .i64 0, .int .i64 0]) (t := 160) ?hr ?_; (case hd => rfl); (case hg => rfl); (case hr => first | (go_simp; done) | (go_simp; rfl)); intro gb145 hg w23 hbox hb; have n0_ := Aside0.mk (blk_below (g := gb141) (o := .cells #[.int .i64 a0_0, .slice (some ad143) l0_1.length c0_1] 24 (0, 0)) (by (with_reducible repeat (first | refine blk_drewN ?_ _ | refine blk_drew ?_ | refine blk_alloc ?_ _)); exact BK141.out) hb); have n1_ := Aside0.mk (below_step (by repeat (first | (with_reducible first | exact HB.out | apply below_alloc | apply pw_below_drewN | apply below_drew1 | refine below_set ?_ GE141.out) | exact HB.out)) hb); have n2_ := Aside0.mk (hbox); have n3_ := Aside0.mk ((by rw [hg]; exact (below_size (by repeat (first | (with_reducible first | exact HB.out | apply below_alloc | apply pw_below_drewN | apply below_drew1 | refine below_set ?_ GE141.out) | exact HB.out))) : w.heap.size ≤ gb145)); have n4_ := Aside0.mk ((by rw [hg]; exact (below_size (by repeat (first | (with_reducible first | exact HB.out | apply below_alloc | apply pw_below_drewN | apply below_drew1 | refine below_set ?_ GE141.out) | exact HB.out))) : w.heap.size ≤ gb145)); have n5_ := Aside0.mk ((by rw [hg]; exact Nat.ne_of_lt (blk_lt (g := gb141) (o := .cells #[.int .i64 a0_0, .slice (some ad143) l0_1.length c0_1] 24 (0, 0)) (by (with_reducible repeat (first | refine blk_drewN ?_ _ | refine blk_drew ?_ | refine blk_alloc ?_ _)); exact BK141.out)) : gb141 ≠ gb145)); have n6_ := Aside0.mk ((by rw [hg]; exact Nat.ne_of_gt (blk_lt (g := gb141) (o := .cells #[.int .i64 a0_0, .slice (some ad143) l0_1.length c0_1] 24 (0, 0)) (by (with_reducible repeat (first | refine blk_drewN ?_ _ | refine blk_drew ?_ | refine blk_alloc ?_ _)); exact BK141.out)) : gb145 ≠ gb141)); clear BK141; clear HB; have BK141 := n0_; have HB := n1_; have BK145 := n2_; have GW145 := n3_; have GE145 := n4_; have NB141_145 := n5_; have NB145_141 := n6_; clear n0_ n1_ n2_ n3_ n4_ n5_ n6_; clear hb hbox hg; have hnb24 := NB145_141.out; have hnc24 := NB141_145.out; have hcz25_0 : w23.cell? ⟨gb145, 0, none⟩ = some (.int .i64 0) := (blk_cell BK145.out 0).trans rfl; have hcz25_1 : w23.cell? ⟨gb145, 1, none⟩ = some (.int .i64 0) := (blk_cell BK145.out 1).trans rfl; have hcz25_2 : w23.cell? ⟨gb145, 2, none⟩ = some (.int .i64 0) := (blk_cell BK145.out 2).trans rfl; have hfz25_0 := blk_frozen BK145.out 0; have hfz25_1 := blk_frozen BK145.out 1; have hfz25_2 := blk_frozen BK145.out 2))
                                    (try simp only [Act.put, List.setIfInBounds_toArray, List.set_cons_zero, List.set_cons_succ])
                                    go_cut [61] (fun v61 wc => ∃ (kq : Nat) (x61_21 : Bool), v61 = .bool x61_21 ∧ Aside0 (glossatorref3_CheckProgram.j4 kq x43_3 x8_4 l0_1 (l0_1.length : Int) x43_3 (rd_L2 l0_1 x43_3) ((rd_L2 l0_1 x43_3).length : Int) x50_4 x61_21 a0_0 l0_1 ((rd_T160 (rd_L2 l0_1 x43_3) x50_4).f0) ((rd_T160 (rd_L2 l0_1 x43_3) x50_4).f1) ((rd_T160 (rd_L2 l0_1 x43_3) x50_4).f2) = some r) ∧ Aside0 (kq ≤ k4) ∧ Aside0 (wc.heap[gb141]? = some (.cells #[.int .i64 a0_0, (.slice (some ad143) l0_1.length c0_1)] 24 (0, 0))) ∧ Aside0 (wc.heap[gb145]? = some (.cells #[.int .i64 ((rd_T160 (rd_L2 l0_1 x43_3) x50_4).f0), .int .i64 ((rd_T160 (rd_L2 l0_1 x43_3) x50_4).f1), .int .i64 ((rd_T160 (rd_L2 l0_1 x43_3) x50_4).f2)] 160 (0, 0))) ∧ Aside0 (Below w.heap.size w wc))
                                    case first =>
                                      have H := HC22.out
                                      clear HC22
                                      by_cases c26 : ((rd_T160 (rd_L2 l0_1 x43_3) x50_4).f0) < 1
                                      · rw [if_pos c26] at H
                                        have c26b0 : decide (((rd_T160 (rd_L2 l0_1 x43_3) x50_4).f0) < 1) = true := decide_eq_true c26
                                        clear c26
                                        (first | rw [c26b0] | (simp only [i64_w, i32_w]; rw [c26b0]) | skip)
                                        have H' := Aside0.mk H
                                        clear H
                                        have hnb27 := NB145_141.out
                                        have hnc27 := NB141_145.out
                                        have hcz28_0 : w23.cell? ⟨gb145, 0, none⟩ = some (.int .i64 0) := (blk_cell BK145.out 0).trans rfl
                                        have hcz28_1 : w23.cell? ⟨gb145, 1, none⟩ = some (.int .i64 0) := (blk_cell BK145.out 1).trans rfl
                                        have hcz28_2 : w23.cell? ⟨gb145, 2, none⟩ = some (.int .i64 0) := (blk_cell BK145.out 2).trans rfl
                                        have hfz28_0 := blk_frozen BK145.out 0
                                        have hfz28_1 := blk_frozen BK145.out 1
                                        have hfz28_2 := blk_frozen BK145.out 2
                                        go_wp2
                                        go_meet
                                        case rel => exact ⟨_, (true), (by first | rfl | (simp; done) | (simp [*]; done) | (simp [isEmpty_bne]; done)), H', ⟨by have := HJ1.out; have := HK2.out; have := HK3.out; have := HK4.out; first | omega | exact Nat.le_refl _⟩, ⟨by (with_reducible repeat (first | refine blk_drewN ?_ _ | refine blk_drew ?_ | refine blk_alloc ?_ _)); refine blk_far ?_ NB141_145.out _; (with_reducible repeat (first | refine blk_drewN ?_ _ | refine blk_drew ?_ | refine blk_alloc ?_ _)); refine blk_far ?_ NB141_145.out _; (with_reducible repeat (first | refine blk_drewN ?_ _ | refine blk_drew ?_ | refine blk_alloc ?_ _)); refine blk_far ?_ NB141_145.out _; (with_reducible repeat (first | refine blk_drewN ?_ _ | refine blk_drew ?_ | refine blk_alloc ?_ _)); exact BK141.out⟩, ⟨by (with_reducible repeat (first | refine blk_drewN ?_ _ | refine blk_drew ?_ | refine blk_alloc ?_ _)); refine blk_put (cs := #[.int .i64 ((rd_T160 (rd_L2 l0_1 x43_3) x50_4).f0), .int .i64 ((rd_T160 (rd_L2 l0_1 x43_3) x50_4).f1), .int .i64 0]) ?_ 2 _ rfl; (with_reducible repeat (first | refine blk_drewN ?_ _ | refine blk_drew ?_ | refine blk_alloc ?_ _)); refine blk_put (cs := #[.int .i64 ((rd_T160 (rd_L2 l0_1 x43_3) x50_4).f0), .int .i64 0, .int .i64 0]) ?_ 1 _ rfl; (with_reducible repeat (first | refine blk_drewN ?_ _ | refine blk_drew ?_ | refine blk_alloc ?_ _)); refine blk_put (cs := #[.int .i64 0, .int .i64 0, .int .i64 0]) ?_ 0 _ rfl; (with_reducible repeat (first | refine blk_drewN ?_ _ | refine blk_drew ?_ | refine blk_alloc ?_ _)); exact BK145.out⟩, ⟨by repeat (first | (with_reducible first | exact HB.out | apply below_alloc | apply pw_below_drewN | apply below_drew1 | refine below_set ?_ GE141.out | refine below_set ?_ GE145.out) | exact HB.out)⟩⟩
                                      · rw [if_neg c26] at H
                                        have c26b0 : decide (((rd_T160 (rd_L2 l0_1 x43_3) x50_4).f0) < 1) = false := decide_eq_false c26
                                        clear c26
                                        (first | rw [c26b0] | (simp only [i64_w, i32_w]; rw [c26b0]) | skip)
                                        have H' := Aside0.mk H
                                        clear H
                                        have hnb29 := NB145_141.out
                                        have hnc29 := NB141_145.out
                                        have hcz30_0 : w23.cell? ⟨gb145, 0, none⟩ = some (.int .i64 0) := (blk_cell BK145.out 0).trans rfl
                                        have hcz30_1 : w23.cell? ⟨gb145, 1, none⟩ = some (.int .i64 0) := (blk_cell BK145.out 1).trans rfl
                                        have hcz30_2 : w23.cell? ⟨gb145, 2, none⟩ = some (.int .i64 0) := (blk_cell BK145.out 2).trans rfl
                                        have hfz30_0 := blk_frozen BK145.out 0
                                        have hfz30_1 := blk_frozen BK145.out 1
                                        have hfz30_2 := blk_frozen BK145.out 2
                                        go_wp2
                                        go_meet
                                        case rel => exact ⟨_, (decide (((rd_T160 (rd_L2 l0_1 x43_3) x50_4).f0) > 11)), (by first | rfl | (simp; done) | (simp [*]; done) | (simp [isEmpty_bne]; done)), H', ⟨by have := HJ1.out; have := HK2.out; have := HK3.out; have := HK4.out; first | omega | exact Nat.le_refl _⟩, ⟨by (with_reducible repeat (first | refine blk_drewN ?_ _ | refine blk_drew ?_ | refine blk_alloc ?_ _)); refine blk_far ?_ NB141_145.out _; (with_reducible repeat (first | refine blk_drewN ?_ _ | refine blk_drew ?_ | refine blk_alloc ?_ _)); refine blk_far ?_ NB141_145.out _; (with_reducible repeat (first | refine blk_drewN ?_ _ | refine blk_drew ?_ | refine blk_alloc ?_ _)); refine blk_far ?_ NB141_145.out _; (with_reducible repeat (first | refine blk_drewN ?_ _ | refine blk_drew ?_ | refine blk_alloc ?_ _)); exact BK141.out⟩, ⟨by (with_reducible repeat (first | refine blk_drewN ?_ _ | refine blk_drew ?_ | refine blk_alloc ?_ _)); refine blk_put (cs := #[.int .i64 ((rd_T160 (rd_L2 l0_1 x43_3) x50_4).f0), .int .i64 ((rd_T160 (rd_L2 l0_1 x43_3) x50_4).f1), .int .i64 0]) ?_ 2 _ rfl; (with_reducible repeat (first | refine blk_drewN ?_ _ | refine blk_drew ?_ | refine blk_alloc ?_ _)); refine blk_put (cs := #[.int .i64 ((rd_T160 (rd_L2 l0_1 x43_3) x50_4).f0), .int .i64 0, .int .i64 0]) ?_ 1 _ rfl; (with_reducible repeat (first | refine blk_drewN ?_ _ | refine blk_drew ?_ | refine blk_alloc ?_ _)); refine blk_put (cs := #[.int .i64 0, .int .i64 0, .int .i64 0]) ?_ 0 _ rfl; (with_reducible repeat (first | refine blk_drewN ?_ _ | refine blk_drew ?_ | refine blk_alloc ?_ _)); exact BK145.out⟩, ⟨by repeat (first | (with_reducible first | exact HB.out | apply below_alloc | apply pw_below_drewN | apply below_drew1 | refine below_set ?_ GE141.out | refine below_set ?_ GE145.out) | exact HB.out)⟩⟩
                                    case rest =>
                                      clear HC22
                                      try clear c1
                                      try clear p1
                                      try clear q1
                                      try clear hx1
                                      try clear c2
                                      try clear p2
                                      try clear c4
                                      try clear c4b0
                                      try clear p6
                                      try clear c8
                                      try clear c8b0
                                      try clear c9
                                      try clear c9b0
                                      try clear c10
                                      try clear c10b0
                                      try clear c11
                                      try clear c12
                                      try clear c13
                                      try clear c13b0
                                      try clear c14
                                      try clear p14
                                      try clear q14
                                      try clear hx14
                                      try clear c16
                                      try clear c16b0
                                      try clear c17
                                      try clear c17b0
                                      try clear c18
                                      try clear c18b0
                                      try clear c19
                                      try clear c19b0
                                      try clear c20
                                      try clear c20b0
                                      try clear c21
                                      try clear c21b0
                                      try clear c24
                                      try clear c26
                                      try clear c26b0
                                      try clear c27
                                      try clear c29
                                      try clear hcz14_0
                                      try clear hcz14_1
                                      try clear hcz15_0
                                      try clear hcz15_1
                                      try clear hcz25_0
                                      try clear hcz25_1
                                      try clear hcz25_2
                                      try clear hcz28_0
                                      try clear hcz28_1
                                      try clear hcz28_2
                                      try clear hcz30_0
                                      try clear hcz30_1
                                      try clear hcz30_2
                                      try clear hcz5_0
                                      try clear hcz5_1
                                      try clear hcz6_0
                                      try clear hcz6_1
                                      try clear hcz7_0
                                      try clear hcz7_1
                                      try clear hfz14_0
                                      try clear hfz14_1
                                      try clear hfz15_0
                                      try clear hfz15_1
                                      try clear hfz25_0
                                      try clear hfz25_1
                                      try clear hfz25_2
                                      try clear hfz28_0
                                      try clear hfz28_1
                                      try clear hfz28_2
                                      try clear hfz30_0
                                      try clear hfz30_1
                                      try clear hfz30_2
                                      try clear hfz5_0
                                      try clear hfz5_1
                                      try clear hfz6_0
                                      try clear hfz6_1
                                      try clear hfz7_0
                                      try clear hfz7_1
                                      try clear hx142_0
                                      try clear hx143_0
                                      try clear hx144_0
                                      try clear hx144_1
                                      try clear hx144_2
                                      try clear p1
                                      try clear p14
                                      try clear p142
                                      try clear p143
                                      try clear p144
                                      try clear p2
                                      try clear p6
                                      try clear q1
                                      try clear q14
                                      try clear q142
                                      try clear q143
                                      try clear q144
                                      obtain ⟨kq, x61_21, rfl, HA, HJ21, BK141, BK145, HB⟩ := hcut
                                      cases kq with
                                      | zero => exact absurd HA.out (by simp [glossatorref3_CheckProgram.j4])
                                      | succ kj21 =>
                                        have H := HA.out
                                        clear HA
                                        simp only [glossatorref3_CheckProgram.j4] at H
                                        by_cases c31 : x61_21 = true
                                        · subst c31
                                          have H1 : (some 7) = some r := by rw [if_pos rfl] at H; exact H
                                          clear H
                                          have H := H1
                                          clear H1
                                          obtain rfl := Option.some.inj H
                                          go_wp2
                                          go_ret
                                          exact ⟨by first | rfl | (simp [errW_none, errW_some] <;> rfl) | (simp [*, errW_none, errW_some] <;> rfl), by repeat (first | (with_reducible first | exact HB.out | apply below_alloc | apply pw_below_drewN | apply below_drew1 | refine below_set ?_ GE141.out | refine below_set ?_ GE145.out) | exact HB.out)⟩
                                        · replace c31 := Bool.eq_false_iff.mpr c31
                                          subst c31
                                          have H1 : ((glossatorref3_effect.f a0_0 l0_1 x43_3 ((rd_T160 (rd_L2 l0_1 x43_3) x50_4).f0) ((rd_T160 (rd_L2 l0_1 x43_3) x50_4).f1) ((rd_T160 (rd_L2 l0_1 x43_3) x50_4).f2)).bind fun bt146 => (if bt146.2 = true then (if bt146.1 > x8_4 then (some 3) else (glossatorref3_CheckProgram.l2 kj21 x43_3 (wrap64 ((wrap64 (x8_4 - bt146.1)) + 1)) l0_1 (l0_1.length : Int) x43_3 (rd_L2 l0_1 x43_3) ((rd_L2 l0_1 x43_3).length : Int) (wrap64 (x50_4 + 1)) a0_0 l0_1)) else (some 3))) = some r := by rw [if_neg (show ¬ (false = true) by decide)] at H; exact H
                                          clear H
                                          have H := H1
                                          clear H1
                                          replace H := Option.bind_eq_some_iff.mp H
                                          obtain ⟨⟨t146, t147⟩, A320, H⟩ := H
                                          replace H : (if t147 = true then (if t146 > x8_4 then (some 3) else (glossatorref3_CheckProgram.l2 kj21 x43_3 (wrap64 ((wrap64 (x8_4 - t146)) + 1)) l0_1 (l0_1.length : Int) x43_3 (rd_L2 l0_1 x43_3) ((rd_L2 l0_1 x43_3).length : Int) (wrap64 (x50_4 + 1)) a0_0 l0_1)) else (some 3)) = some r := H
                                          have A32 := Aside0.mk A320
                                          clear A320
                                          by_cases c33 : t147 = true
                                          · subst c33
                                            have H1 : (if t146 > x8_4 then (some 3) else (glossatorref3_CheckProgram.l2 kj21 x43_3 (wrap64 ((wrap64 (x8_4 - t146)) + 1)) l0_1 (l0_1.length : Int) x43_3 (rd_L2 l0_1 x43_3) ((rd_L2 l0_1 x43_3).length : Int) (wrap64 (x50_4 + 1)) a0_0 l0_1)) = some r := by rw [if_pos rfl] at H; exact H
                                            clear H
                                            have H := H1
                                            clear H1
                                            by_cases c34 : t146 > x8_4
                                            · rw [if_pos c34] at H
                                              have c34b0 : decide (x8_4 < t146) = true := decide_eq_true c34
                                              clear c34
                                              obtain rfl := Option.some.inj H
                                              have hnb35 := NB141_145.out
                                              have hnc35 := NB145_141.out
                                              have hcz36_0 : wc.cell? ⟨gb141, 0, none⟩ = some (.int .i64 a0_0) := (blk_cell BK141.out 0).trans rfl
                                              have hcz36_1 : wc.cell? ⟨gb141, 1, none⟩ = some (.slice (some ad143) l0_1.length c0_1) := (blk_cell BK141.out 1).trans rfl
                                              have hfz36_0 := blk_frozen BK141.out 0
                                              have hfz36_1 := blk_frozen BK141.out 1
                                              have hcz37_0 : wc.cell? ⟨gb145, 0, none⟩ = some (.int .i64 ((rd_T160 (rd_L2 l0_1 x43_3) x50_4).f0)) := (blk_cell BK145.out 0).trans rfl
                                              have hcz37_1 : wc.cell? ⟨gb145, 1, none⟩ = some (.int .i64 ((rd_T160 (rd_L2 l0_1 x43_3) x50_4).f1)) := (blk_cell BK145.out 1).trans rfl
                                              have hcz37_2 : wc.cell? ⟨gb145, 2, none⟩ = some (.int .i64 ((rd_T160 (rd_L2 l0_1 x43_3) x50_4).f2)) := (blk_cell BK145.out 2).trans rfl
                                              have hfz37_0 := blk_frozen BK145.out 0
                                              have hfz37_1 := blk_frozen BK145.out 1
                                              have hfz37_2 := blk_frozen BK145.out 2
                                              go_wp2_with (first | ((with_reducible refine gate_callee (f := 93) rfl ?_); refine goesL_ (some 66) rfl rfl Try.func93 (by kernel_rfl) rfl #[.agg #[.int .i64 a0_0, .slice (some ad143) l0_1.length c0_1], .int .i64 x43_3, .agg #[.int .i64 ((rd_T160 (rd_L2 l0_1 x43_3) x50_4).f0), .int .i64 ((rd_T160 (rd_L2 l0_1 x43_3) x50_4).f1), .int .i64 ((rd_T160 (rd_L2 l0_1 x43_3) x50_4).f2)]] rfl (by (try simp only [List.map_toArray, List.map_cons, List.map_nil]); first | done | rfl | (simp only [List.length_drop, List.length_take]; rfl)) ?_; (with_reducible refine (glossatorref3_effect.calls a0_0 _ _ l0_1 x43_3 ((rd_T160 (rd_L2 l0_1 x43_3) x50_4).f0) ((rd_T160 (rd_L2 l0_1 x43_3) x50_4).f1) ((rd_T160 (rd_L2 l0_1 x43_3) x50_4).f2) t146 true _ ?side1 ?side2 A32.out).mono ?_); (case side1 => repeat (first | exact (Kd.C_below HR0_1.out HB.out) | (with_reducible refine Kd.C_alloc ?_ _) | (with_reducible refine Kd.C_drewN ?_ _) | (with_reducible refine Kd.C_drew ?_))); (case side2 => exact HC0_1.out); rintro e w38 ⟨rfl, hb⟩; refine ⟨_, rfl, ?_⟩; have n0_ := Aside0.mk (blk_below (g := gb141) (o := .cells #[.int .i64 a0_0, .slice (some ad143) l0_1.length c0_1] 24 (0, 0)) (by (with_reducible repeat (first | refine blk_drewN ?_ _ | refine blk_drew ?_ | refine blk_alloc ?_ _)); exact BK141.out) hb); have n1_ := Aside0.mk (blk_below (g := gb145) (o := .cells #[.int .i64 ((rd_T160 (rd_L2 l0_1 x43_3) x50_4).f0), .int .i64 ((rd_T160 (rd_L2 l0_1 x43_3) x50_4).f1), .int .i64 ((rd_T160 (rd_L2 l0_1 x43_3) x50_4).f2)] 160 (0, 0)) (by (with_reducible repeat (first | refine blk_drewN ?_ _ | refine blk_drew ?_ | refine blk_alloc ?_ _)); exact BK145.out) hb); have n2_ := Aside0.mk (below_step (by repeat (first | (with_reducible first | exact HB.out | apply below_alloc | apply pw_below_drewN | apply below_drew1 | refine below_set ?_ GE141.out | refine below_set ?_ GE145.out) | exact HB.out)) hb); clear BK141; clear BK145; clear HB; have BK141 := n0_; have BK145 := n1_; have HB := n2_; clear n0_ n1_ n2_; (try clear hb); (try clear hb2); (try clear hk); (try clear hi)))
                                              go_ret
                                              exact ⟨by first | rfl | (simp [errW_none, errW_some] <;> rfl) | (simp [*, errW_none, errW_some] <;> rfl), by repeat (first | (with_reducible first | exact HB.out | apply below_alloc | apply pw_below_drewN | apply below_drew1 | refine below_set ?_ GE141.out | refine below_set ?_ GE145.out) | exact HB.out)⟩
                                            · rw [if_neg c34] at H
                                              have c34b0 : decide (x8_4 < t146) = false := decide_eq_false c34
                                              clear c34
                                              have H' := Aside0.mk H
                                              clear H
                                              have hnb39 := NB141_145.out
                                              have hnc39 := NB145_141.out
                                              have hcz40_0 : wc.cell? ⟨gb141, 0, none⟩ = some (.int .i64 a0_0) := (blk_cell BK141.out 0).trans rfl
                                              have hcz40_1 : wc.cell? ⟨gb141, 1, none⟩ = some (.slice (some ad143) l0_1.length c0_1) := (blk_cell BK141.out 1).trans rfl
                                              have hfz40_0 := blk_frozen BK141.out 0
                                              have hfz40_1 := blk_frozen BK141.out 1
                                              have hcz41_0 : wc.cell? ⟨gb145, 0, none⟩ = some (.int .i64 ((rd_T160 (rd_L2 l0_1 x43_3) x50_4).f0)) := (blk_cell BK145.out 0).trans rfl
                                              have hcz41_1 : wc.cell? ⟨gb145, 1, none⟩ = some (.int .i64 ((rd_T160 (rd_L2 l0_1 x43_3) x50_4).f1)) := (blk_cell BK145.out 1).trans rfl
                                              have hcz41_2 : wc.cell? ⟨gb145, 2, none⟩ = some (.int .i64 ((rd_T160 (rd_L2 l0_1 x43_3) x50_4).f2)) := (blk_cell BK145.out 2).trans rfl
                                              have hfz41_0 := blk_frozen BK145.out 0
                                              have hfz41_1 := blk_frozen BK145.out 1
                                              have hfz41_2 := blk_frozen BK145.out 2
                                              go_wp2_with (first | ((with_reducible refine gate_callee (f := 93) rfl ?_); refine goesL_ (some 66) rfl rfl Try.func93 (by kernel_rfl) rfl #[.agg #[.int .i64 a0_0, .slice (some ad143) l0_1.length c0_1], .int .i64 x43_3, .agg #[.int .i64 ((rd_T160 (rd_L2 l0_1 x43_3) x50_4).f0), .int .i64 ((rd_T160 (rd_L2 l0_1 x43_3) x50_4).f1), .int .i64 ((rd_T160 (rd_L2 l0_1 x43_3) x50_4).f2)]] rfl (by (try simp only [List.map_toArray, List.map_cons, List.map_nil]); first | done | rfl | (simp only [List.length_drop, List.length_take]; rfl)) ?_; (with_reducible refine (glossatorref3_effect.calls a0_0 _ _ l0_1 x43_3 ((rd_T160 (rd_L2 l0_1 x43_3) x50_4).f0) ((rd_T160 (rd_L2 l0_1 x43_3) x50_4).f1) ((rd_T160 (rd_L2 l0_1 x43_3) x50_4).f2) t146 true _ ?side1 ?side2 A32.out).mono ?_); (case side1 => repeat (first | exact (Kd.C_below HR0_1.out HB.out) | (with_reducible refine Kd.C_alloc ?_ _) | (with_reducible refine Kd.C_drewN ?_ _) | (with_reducible refine Kd.C_drew ?_))); (case side2 => exact HC0_1.out); rintro e w42 ⟨rfl, hb⟩; refine ⟨_, rfl, ?_⟩; have n0_ := Aside0.mk (blk_below (g := gb141) (o := .cells #[.int .i64 a0_0, .slice (some ad143) l0_1.length c0_1] 24 (0, 0)) (by (with_reducible repeat (first | refine blk_drewN ?_ _ | refine blk_drew ?_ | refine blk_alloc ?_ _)); exact BK141.out) hb); have n1_ := Aside0.mk (blk_below (g := gb145) (o := .cells #[.int .i64 ((rd_T160 (rd_L2 l0_1 x43_3) x50_4).f0), .int .i64 ((rd_T160 (rd_L2 l0_1 x43_3) x50_4).f1), .int .i64 ((rd_T160 (rd_L2 l0_1 x43_3) x50_4).f2)] 160 (0, 0)) (by (with_reducible repeat (first | refine blk_drewN ?_ _ | refine blk_drew ?_ | refine blk_alloc ?_ _)); exact BK145.out) hb); have n2_ := Aside0.mk (below_step (by repeat (first | (with_reducible first | exact HB.out | apply below_alloc | apply pw_below_drewN | apply below_drew1 | refine below_set ?_ GE141.out | refine below_set ?_ GE145.out) | exact HB.out)) hb); clear BK141; clear BK145; clear HB; have BK141 := n0_; have BK145 := n1_; have HB := n2_; clear n0_ n1_ n2_; (try clear hb); (try clear hb2); (try clear hk); (try clear hi)))
                                              go_roundg kj21
                                              case measure => have := HJ1.out; have := HK2.out; have := HK3.out; have := HK4.out; have := HJ21.out; omega
                                              case rel => exact ⟨(wrap64 ((wrap64 (x8_4 - t146)) + 1)), (wrap64 (x50_4 + 1)), (by first | rfl | (simp; done) | (simp [*]; done) | (simp [isEmpty_bne]; done)), (by first | rfl | (simp; done) | (simp [*]; done) | (simp [isEmpty_bne]; done)), H', ⟨by have := HJ1.out; have := HK2.out; have := HK3.out; have := HK4.out; have := HJ21.out; omega⟩, ⟨by (with_reducible repeat (first | refine blk_drewN ?_ _ | refine blk_drew ?_ | refine blk_alloc ?_ _)); exact BK141.out⟩, ⟨by repeat (first | (with_reducible first | exact HB.out | apply below_alloc | apply pw_below_drewN | apply below_drew1 | refine below_set ?_ GE141.out | refine below_set ?_ GE145.out) | exact HB.out)⟩⟩
                                          · replace c33 := Bool.eq_false_iff.mpr c33
                                            subst c33
                                            have H1 : (some 3) = some r := by rw [if_neg (show ¬ (false = true) by decide)] at H; exact H
                                            clear H
                                            have H := H1
                                            clear H1
                                            obtain rfl := Option.some.inj H
                                            have hnb43 := NB141_145.out
                                            have hnc43 := NB145_141.out
                                            have hcz44_0 : wc.cell? ⟨gb141, 0, none⟩ = some (.int .i64 a0_0) := (blk_cell BK141.out 0).trans rfl
                                            have hcz44_1 : wc.cell? ⟨gb141, 1, none⟩ = some (.slice (some ad143) l0_1.length c0_1) := (blk_cell BK141.out 1).trans rfl
                                            have hfz44_0 := blk_frozen BK141.out 0
                                            have hfz44_1 := blk_frozen BK141.out 1
                                            have hcz45_0 : wc.cell? ⟨gb145, 0, none⟩ = some (.int .i64 ((rd_T160 (rd_L2 l0_1 x43_3) x50_4).f0)) := (blk_cell BK145.out 0).trans rfl
                                            have hcz45_1 : wc.cell? ⟨gb145, 1, none⟩ = some (.int .i64 ((rd_T160 (rd_L2 l0_1 x43_3) x50_4).f1)) := (blk_cell BK145.out 1).trans rfl
                                            have hcz45_2 : wc.cell? ⟨gb145, 2, none⟩ = some (.int .i64 ((rd_T160 (rd_L2 l0_1 x43_3) x50_4).f2)) := (blk_cell BK145.out 2).trans rfl
                                            have hfz45_0 := blk_frozen BK145.out 0
                                            have hfz45_1 := blk_frozen BK145.out 1
                                            have hfz45_2 := blk_frozen BK145.out 2
                                            go_wp2_with (first | ((with_reducible refine gate_callee (f := 93) rfl ?_); refine goesL_ (some 66) rfl rfl Try.func93 (by kernel_rfl) rfl #[.agg #[.int .i64 a0_0, .slice (some ad143) l0_1.length c0_1], .int .i64 x43_3, .agg #[.int .i64 ((rd_T160 (rd_L2 l0_1 x43_3) x50_4).f0), .int .i64 ((rd_T160 (rd_L2 l0_1 x43_3) x50_4).f1), .int .i64 ((rd_T160 (rd_L2 l0_1 x43_3) x50_4).f2)]] rfl (by (try simp only [List.map_toArray, List.map_cons, List.map_nil]); first | done | rfl | (simp only [List.length_drop, List.length_take]; rfl)) ?_; (with_reducible refine (glossatorref3_effect.calls a0_0 _ _ l0_1 x43_3 ((rd_T160 (rd_L2 l0_1 x43_3) x50_4).f0) ((rd_T160 (rd_L2 l0_1 x43_3) x50_4).f1) ((rd_T160 (rd_L2 l0_1 x43_3) x50_4).f2) t146 false _ ?side1 ?side2 A32.out).mono ?_); (case side1 => repeat (first | exact (Kd.C_below HR0_1.out HB.out) | (with_reducible refine Kd.C_alloc ?_ _) | (with_reducible refine Kd.C_drewN ?_ _) | (with_reducible refine Kd.C_drew ?_))); (case side2 => exact HC0_1.out); rintro e w46 ⟨rfl, hb⟩; refine ⟨_, rfl, ?_⟩; have n0_ := Aside0.mk (blk_below (g := gb141) (o := .cells #[.int .i64 a0_0, .slice (some ad143) l0_1.length c0_1] 24 (0, 0)) (by (with_reducible repeat (first | refine blk_drewN ?_ _ | refine blk_drew ?_ | refine blk_alloc ?_ _)); exact BK141.out) hb); have n1_ := Aside0.mk (blk_below (g := gb145) (o := .cells #[.int .i64 ((rd_T160 (rd_L2 l0_1 x43_3) x50_4).f0), .int .i64 ((rd_T160 (rd_L2 l0_1 x43_3) x50_4).f1), .int .i64 ((rd_T160 (rd_L2 l0_1 x43_3) x50_4).f2)] 160 (0, 0)) (by (with_reducible repeat (first | refine blk_drewN ?_ _ | refine blk_drew ?_ | refine blk_alloc ?_ _)); exact BK145.out) hb); have n2_ := Aside0.mk (below_step (by repeat (first | (with_reducible first | exact HB.out | apply below_alloc | apply pw_below_drewN | apply below_drew1 | refine below_set ?_ GE141.out | refine below_set ?_ GE145.out) | exact HB.out)) hb); clear BK141; clear BK145; clear HB; have BK141 := n0_; have BK145 := n1_; have HB := n2_; clear n0_ n1_ n2_; (try clear hb); (try clear hb2); (try clear hk); (try clear hi)))
                                            go_ret
                                            exact ⟨by first | rfl | (simp [errW_none, errW_some] <;> rfl) | (simp [*, errW_none, errW_some] <;> rfl), by repeat (first | (with_reducible first | exact HB.out | apply below_alloc | apply pw_below_drewN | apply below_drew1 | refine below_set ?_ GE141.out | refine below_set ?_ GE145.out) | exact HB.out)⟩
                                  · rw [if_neg c21] at H
                                    exact absurd H (by simp)
                                · rw [if_neg c20] at H
                                  exact absurd H (by simp)
                              · rw [if_neg c19] at H
                                have c19b0 : decide (x50_4 < ((rd_L2 l0_1 x43_3).length : Int)) = false := decide_eq_false c19
                                clear c19
                                by_cases c47 : x8_4 = 1
                                · rw [if_pos c47] at H
                                  have c47b0 : (x8_4 == 1) = true := beq_iff_eq.mpr c47
                                  have c47b1 : (x8_4 != 1) = false := bne_eq_false_iff_eq.mpr c47
                                  clear c47
                                  have H' := Aside0.mk H
                                  clear H
                                  go_wp2
                                  go_roundg k4
                                  case measure => have := HJ1.out; have := HK2.out; have := HK3.out; have := HK4.out; omega
                                  case rel => exact ⟨(wrap64 (x43_3 + 1)), (by first | rfl | (simp; done) | (simp [*]; done) | (simp [isEmpty_bne]; done)), H', ⟨by have := HJ1.out; have := HK2.out; have := HK3.out; have := HK4.out; omega⟩, ⟨by (with_reducible repeat (first | refine blk_drewN ?_ _ | refine blk_drew ?_ | refine blk_alloc ?_ _)); exact BK141.out⟩, ⟨by repeat (first | (with_reducible first | exact HB.out | apply below_alloc | apply pw_below_drewN | apply below_drew1 | refine below_set ?_ GE141.out) | exact HB.out)⟩⟩
                                · rw [if_neg c47] at H
                                  have c47b0 : (x8_4 == 1) = false := beq_eq_false_iff_ne.mpr c47
                                  have c47b1 : (x8_4 != 1) = true := bne_iff_ne.mpr c47
                                  obtain rfl := Option.some.inj H
                                  go_wp2
                                  go_ret
                                  exact ⟨by first | rfl | (simp [errW_none, errW_some] <;> rfl) | (simp [*, errW_none, errW_some] <;> rfl), by repeat (first | (with_reducible first | exact HB.out | apply below_alloc | apply pw_below_drewN | apply below_drew1 | refine below_set ?_ GE141.out) | exact HB.out)⟩
                        · rw [if_neg c18] at H
                          exact absurd H (by simp)
                      · rw [if_neg c17] at H
                        exact absurd H (by simp)
                    · rw [if_neg c16] at H
                      have c16b0 : decide (x43_3 < (l0_1.length : Int)) = false := decide_eq_false c16
                      clear c16
                      obtain rfl := Option.some.inj H
                      go_wp2
                      go_ret
                      exact ⟨by first | rfl | (simp [errW_none, errW_some] <;> rfl) | (simp [*, errW_none, errW_some] <;> rfl), by repeat (first | (with_reducible first | exact HB.out | apply below_alloc | apply pw_below_drewN | apply below_drew1 | refine below_set ?_ GE141.out) | exact HB.out)⟩

end Go.Proofs.Ytglckkkjfcomlaa.QQuerylangCompile
