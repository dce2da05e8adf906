-- Written by gen.py (this repo's wip/), which runs the kit's print.py with more arms. Lean checks it.
import Derived.Test.YtglckkkjfcomlaaQFixpointProofsx0
namespace Go.Proofs.Ytglckkkjfcomlaa.QFixpointProofs
open Go.RowKit Go.Proofs.YtglckkkjfcomlaaW.PrintWords Go.Proofs.YtglckkkjfcomlaaW.PrintLast Go.Proofs.YtglckkkjfcomlaaW.PrintMore
attribute [local go_sem] max2_int min2_int max_two min_two max_three min_three max_four min_four   -- for this text's walks alone
set_option linter.unusedVariables false
set_option linter.unusedSimpArgs false

private theorem isEmpty_bne {α : Type} [BEq α] (l : List α) : (l != []) = !l.isEmpty := by cases l <;> rfl

/-! ### fixpoint_validStep_1_1: function 181 -/
def fixpoint_validStep_1_1.f (a0_0 : Int) (a0_1 : Int) (a0_2 : Int) (a1_0_0 : Int) (a2_0_0 : Int) (a2_0_1 : Int) (a2_0_2 : Int) : Option (Bool) := if a0_0 = a1_0_0 then (some (a0_2 == a2_0_2)) else (some false)
set_option maxHeartbeats 8000000 in
set_option maxRecDepth 100000 in
theorem fixpoint_validStep_1_1.calls (a0_0 : Int) (a0_1 : Int) (a0_2 : Int) (b1_0 : Nat) (a1_0_0 : Int) (b2_0 : Nat) (a2_0_0 : Int) (a2_0_1 : Int) (a2_0_2 : Int) (r : Bool) (w : World) (hb1_0 : w.heap[b1_0]? = some (.cells #[.int .i64 a1_0_0] 3 (0, 0))) (hb2_0 : w.heap[b2_0]? = some (.cells #[.int .i64 a2_0_0, .int .i64 a2_0_1, .int .i64 a2_0_2] 182 (0, 0))) (h : fixpoint_validStep_1_1.f a0_0 a0_1 a0_2 a1_0_0 a2_0_0 a2_0_1 a2_0_2 = some r) :
  Calls Try.prog 181 #[.agg #[.int .i64 a0_0, .int .i64 a0_1, .int .i64 a0_2], .pointer (some ⟨b1_0, 0, none⟩), .pointer (some ⟨b2_0, 0, none⟩)] w fun e w' => e = .returned (.bool r) ∧ Below w.heap.size w w' := by
 have hu182 := Try.underlying182
 have BK46 := Aside0.mk hb1_0
 clear hb1_0
 have BK52 := Aside0.mk hb2_0
 clear hb2_0
 have HB := Aside0.mk (Below.refl w.heap.size w)
 have H : (if a0_0 = a1_0_0 then (some (a0_2 == a2_0_2)) else (some false)) = some r := h
 clear h
 by_cases c4 : a0_0 = a1_0_0
 ·rw [if_pos c4] at H
  have c4b0 : (a0_0 == a1_0_0) = true := beq_iff_eq.mpr c4
  have c4b1 : (a0_0 != a1_0_0) = false := bne_eq_false_iff_eq.mpr c4
  clear c4
  obtain rfl := Option.some.inj H
  go_enter Try.func181, Try.ntmps181
  go_wp2_with (first | ((with_reducible refine gate_dst (N := 3) rfl ?_); refine box_event ?hg (N := 3) ?hd (cs := #[.int .i64 a0_0, .int .i64 a0_1, .int .i64 a0_2]) (t := 182) ?hr ?_; (case hd => rfl); (case hg => rfl); (case hr => first | (go_simp; done) | (go_simp; rfl)); intro gb267 hg w5 hbox hb; have n0_ := Aside0.mk (blk_below (g := b1_0) (o := .cells #[.int .i64 a1_0_0] 3 (0, 0)) (by (with_reducible repeat (first | refine blk_drewN ?_ _ | refine blk_drew ?_ | refine blk_alloc ?_ _)); exact BK46.out) hb); have n1_ := Aside0.mk (blk_below (g := b2_0) (o := .cells #[.int .i64 a2_0_0, .int .i64 a2_0_1, .int .i64 a2_0_2] 182 (0, 0)) (by (with_reducible repeat (first | refine blk_drewN ?_ _ | refine blk_drew ?_ | refine blk_alloc ?_ _)); exact BK52.out) hb); have n2_ := Aside0.mk (below_step (by repeat (first | (with_reducible first | exact HB.out | apply below_alloc | apply pw_below_drewN | apply below_drew1 | refine below_set ?_ GE46.out | refine below_set ?_ GE52.out) | exact HB.out)) hb); have n3_ := Aside0.mk (hbox); have n4_ := Aside0.mk ((by rw [hg]; exact (below_size (by repeat (first | (with_reducible first | exact HB.out | apply below_alloc | apply pw_below_drewN | apply below_drew1 | refine below_set ?_ GE46.out | refine below_set ?_ GE52.out) | exact HB.out))) : w.heap.size ≤ gb267)); have n5_ := Aside0.mk ((by rw [hg]; exact (below_size (by repeat (first | (with_reducible first | exact HB.out | apply below_alloc | apply pw_below_drewN | apply below_drew1 | refine below_set ?_ GE46.out | refine below_set ?_ GE52.out) | exact HB.out))) : w.heap.size ≤ gb267)); have n6_ := Aside0.mk ((by rw [hg]; exact Nat.ne_of_lt (blk_lt (g := b1_0) (o := .cells #[.int .i64 a1_0_0] 3 (0, 0)) (by (with_reducible repeat (first | refine blk_drewN ?_ _ | refine blk_drew ?_ | refine blk_alloc ?_ _)); exact BK46.out)) : b1_0 ≠ gb267)); have n7_ := Aside0.mk ((by rw [hg]; exact Nat.ne_of_gt (blk_lt (g := b1_0) (o := .cells #[.int .i64 a1_0_0] 3 (0, 0)) (by (with_reducible repeat (first | refine blk_drewN ?_ _ | refine blk_drew ?_ | refine blk_alloc ?_ _)); exact BK46.out)) : gb267 ≠ b1_0)); have n8_ := Aside0.mk ((by rw [hg]; exact Nat.ne_of_lt (blk_lt (g := b2_0) (o := .cells #[.int .i64 a2_0_0, .int .i64 a2_0_1, .int .i64 a2_0_2] 182 (0, 0)) (by (with_reducible repeat (first | refine blk_drewN ?_ _ | refine blk_drew ?_ | refine blk_alloc ?_ _)); exact BK52.out)) : b2_0 ≠ gb267)); have n9_ := Aside0.mk ((by rw [hg]; exact Nat.ne_of_gt (blk_lt (g := b2_0) (o := .cells #[.int .i64 a2_0_0, .int .i64 a2_0_1, .int .i64 a2_0_2] 182 (0, 0)) (by (with_reducible repeat (first | refine blk_drewN ?_ _ | refine blk_drew ?_ | refine blk_alloc ?_ _)); exact BK52.out)) : gb267 ≠ b2_0)); clear BK46; clear BK52; clear HB; have BK46 := n0_; have BK52 := n1_; have HB := n2_; have BK267 := n3_; have GW267 := n4_; have GE267 := n5_; have NB46_267 := n6_; have NB267_46 := n7_; have NB52_267 := n8_; have NB267_52 := n9_; clear n0_ n1_ n2_ n3_ n4_ n5_ n6_ n7_ n8_ n9_; clear hb hbox hg; have hnb6 := NB267_46.out; have hnc6 := NB46_267.out; have hnb7 := NB267_52.out; have hnc7 := NB52_267.out; have hcz8_0 : w5.cell? ⟨gb267, 0, none⟩ = some (.int .i64 a0_0) := (blk_cell BK267.out 0).trans rfl; have hcz8_1 : w5.cell? ⟨gb267, 1, none⟩ = some (.int .i64 a0_1) := (blk_cell BK267.out 1).trans rfl; have hcz8_2 : w5.cell? ⟨gb267, 2, none⟩ = some (.int .i64 a0_2) := (blk_cell BK267.out 2).trans rfl; have hfz8_0 := blk_frozen BK267.out 0; have hfz8_1 := blk_frozen BK267.out 1; have hfz8_2 := blk_frozen BK267.out 2; have hcz10_0 : w5.cell? ⟨b1_0, 0, none⟩ = some (.int .i64 a1_0_0) := (blk_cell BK46.out 0).trans rfl; have hfz10_0 := blk_frozen BK46.out 0; have hcz11_0 : w5.cell? ⟨b2_0, 0, none⟩ = some (.int .i64 a2_0_0) := (blk_cell BK52.out 0).trans rfl; have hcz11_1 : w5.cell? ⟨b2_0, 1, none⟩ = some (.int .i64 a2_0_1) := (blk_cell BK52.out 1).trans rfl; have hcz11_2 : w5.cell? ⟨b2_0, 2, none⟩ = some (.int .i64 a2_0_2) := (blk_cell BK52.out 2).trans rfl; have hfz11_0 := blk_frozen BK52.out 0; have hfz11_1 := blk_frozen BK52.out 1; have hfz11_2 := blk_frozen BK52.out 2))
  go_ret
  exact ⟨by first | rfl | (simp [errW_none, errW_some] <;> rfl) | (simp [*, errW_none, errW_some] <;> rfl), by repeat (first | (with_reducible first | exact HB.out | apply below_alloc | apply pw_below_drewN | apply below_drew1 | refine below_set ?_ GE46.out | refine below_set ?_ GE52.out | refine below_set ?_ GE267.out) | exact HB.out)⟩
 ·rw [if_neg c4] at H
  have c4b0 : (a0_0 == a1_0_0) = false := beq_eq_false_iff_ne.mpr c4
  have c4b1 : (a0_0 != a1_0_0) = true := bne_iff_ne.mpr c4
  obtain rfl := Option.some.inj H
  go_enter Try.func181, Try.ntmps181
  go_wp2_with (first | ((with_reducible refine gate_dst (N := 3) rfl ?_); refine box_event ?hg (N := 3) ?hd (cs := #[.int .i64 a0_0, .int .i64 a0_1, .int .i64 a0_2]) (t := 182) ?hr ?_; (case hd => rfl); (case hg => rfl); (case hr => first | (go_simp; done) | (go_simp; rfl)); intro gb267 hg w12 hbox hb; have n0_ := Aside0.mk (blk_below (g := b1_0) (o := .cells #[.int .i64 a1_0_0] 3 (0, 0)) (by (with_reducible repeat (first | refine blk_drewN ?_ _ | refine blk_drew ?_ | refine blk_alloc ?_ _)); exact BK46.out) hb); have n1_ := Aside0.mk (blk_below (g := b2_0) (o := .cells #[.int .i64 a2_0_0, .int .i64 a2_0_1, .int .i64 a2_0_2] 182 (0, 0)) (by (with_reducible repeat (first | refine blk_drewN ?_ _ | refine blk_drew ?_ | refine blk_alloc ?_ _)); exact BK52.out) hb); have n2_ := Aside0.mk (below_step (by repeat (first | (with_reducible first | exact HB.out | apply below_alloc | apply pw_below_drewN | apply below_drew1 | refine below_set ?_ GE46.out | refine below_set ?_ GE52.out) | exact HB.out)) hb); have n3_ := Aside0.mk (hbox); have n4_ := Aside0.mk ((by rw [hg]; exact (below_size (by repeat (first | (with_reducible first | exact HB.out | apply below_alloc | apply pw_below_drewN | apply below_drew1 | refine below_set ?_ GE46.out | refine below_set ?_ GE52.out) | exact HB.out))) : w.heap.size ≤ gb267)); have n5_ := Aside0.mk ((by rw [hg]; exact (below_size (by repeat (first | (with_reducible first | exact HB.out | apply below_alloc | apply pw_below_drewN | apply below_drew1 | refine below_set ?_ GE46.out | refine below_set ?_ GE52.out) | exact HB.out))) : w.heap.size ≤ gb267)); have n6_ := Aside0.mk ((by rw [hg]; exact Nat.ne_of_lt (blk_lt (g := b1_0) (o := .cells #[.int .i64 a1_0_0] 3 (0, 0)) (by (with_reducible repeat (first | refine blk_drewN ?_ _ | refine blk_drew ?_ | refine blk_alloc ?_ _)); exact BK46.out)) : b1_0 ≠ gb267)); have n7_ := Aside0.mk ((by rw [hg]; exact Nat.ne_of_gt (blk_lt (g := b1_0) (o := .cells #[.int .i64 a1_0_0] 3 (0, 0)) (by (with_reducible repeat (first | refine blk_drewN ?_ _ | refine blk_drew ?_ | refine blk_alloc ?_ _)); exact BK46.out)) : gb267 ≠ b1_0)); have n8_ := Aside0.mk ((by rw [hg]; exact Nat.ne_of_lt (blk_lt (g := b2_0) (o := .cells #[.int .i64 a2_0_0, .int .i64 a2_0_1, .int .i64 a2_0_2] 182 (0, 0)) (by (with_reducible repeat (first | refine blk_drewN ?_ _ | refine blk_drew ?_ | refine blk_alloc ?_ _)); exact BK52.out)) : b2_0 ≠ gb267)); have n9_ := Aside0.mk ((by rw [hg]; exact Nat.ne_of_gt (blk_lt (g := b2_0) (o := .cells #[.int .i64 a2_0_0, .int .i64 a2_0_1, .int .i64 a2_0_2] 182 (0, 0)) (by (with_reducible repeat (first | refine blk_drewN ?_ _ | refine blk_drew ?_ | refine blk_alloc ?_ _)); exact BK52.out)) : gb267 ≠ b2_0)); clear BK46; clear BK52; clear HB; have BK46 := n0_; have BK52 := n1_; have HB := n2_; have BK267 := n3_; have GW267 := n4_; have GE267 := n5_; have NB46_267 := n6_; have NB267_46 := n7_; have NB52_267 := n8_; have NB267_52 := n9_; clear n0_ n1_ n2_ n3_ n4_ n5_ n6_ n7_ n8_ n9_; clear hb hbox hg; have hnb13 := NB267_46.out; have hnc13 := NB46_267.out; have hnb14 := NB267_52.out; have hnc14 := NB52_267.out; have hcz15_0 : w12.cell? ⟨gb267, 0, none⟩ = some (.int .i64 a0_0) := (blk_cell BK267.out 0).trans rfl; have hcz15_1 : w12.cell? ⟨gb267, 1, none⟩ = some (.int .i64 a0_1) := (blk_cell BK267.out 1).trans rfl; have hcz15_2 : w12.cell? ⟨gb267, 2, none⟩ = some (.int .i64 a0_2) := (blk_cell BK267.out 2).trans rfl; have hfz15_0 := blk_frozen BK267.out 0; have hfz15_1 := blk_frozen BK267.out 1; have hfz15_2 := blk_frozen BK267.out 2; have hcz17_0 : w12.cell? ⟨b1_0, 0, none⟩ = some (.int .i64 a1_0_0) := (blk_cell BK46.out 0).trans rfl; have hfz17_0 := blk_frozen BK46.out 0))
  go_ret
  exact ⟨by first | rfl | (simp [errW_none, errW_some] <;> rfl) | (simp [*, errW_none, errW_some] <;> rfl), by repeat (first | (with_reducible first | exact HB.out | apply below_alloc | apply pw_below_drewN | apply below_drew1 | refine below_set ?_ GE46.out | refine below_set ?_ GE52.out | refine below_set ?_ GE267.out) | exact HB.out)⟩

/-! ### slices_IndexFunc_105_at_181_3_182: function 303 -/
def slices_IndexFunc_105_at_181_3_182.l0 : Nat → List (S182) → Int → Int → Int → Int → Int → Int → Option (Int)
 | 0, _, _, _, _, _, _, _ => none
 | k + 1, x0, x7, x8, x47000, x48000, x48001, x48002 => if x8 < x7 then (if 0 ≤ x8 then (if x8 < (x0.length : Int) then ((fixpoint_validStep_1_1.f ((rd_T182 x0 x8).f0) ((rd_T182 x0 x8).f1) ((rd_T182 x0 x8).f2) x47000 x48000 x48001 x48002).bind fun t269 => (if t269 = true then (some x8) else (slices_IndexFunc_105_at_181_3_182.l0 k x0 x7 (wrap64 (x8 + 1)) x47000 x48000 x48001 x48002))) else (none)) else (none)) else (some (-1))
def slices_IndexFunc_105_at_181_3_182.f (k : Nat) (l0 : List (S182)) (a1_0_0 : Int) (a1_1_0 : Int) (a1_1_1 : Int) (a1_1_2 : Int) : Option (Int) := slices_IndexFunc_105_at_181_3_182.l0 k l0 (l0.length : Int) 0 a1_0_0 a1_1_0 a1_1_1 a1_1_2
theorem slices_IndexFunc_105_at_181_3_182.mono_l : ∀ k, (∀ y0 y1 y2 y3 y4 y5 y6, LeO (slices_IndexFunc_105_at_181_3_182.l0 k y0 y1 y2 y3 y4 y5 y6) (slices_IndexFunc_105_at_181_3_182.l0 (k + 1) y0 y1 y2 y3 y4 y5 y6))
 | 0 => fun _ _ _ _ _ _ _ r h => by simp [slices_IndexFunc_105_at_181_3_182.l0] at h
 | k + 1 => by
  have ih0 := slices_IndexFunc_105_at_181_3_182.mono_l k
  ·intro y0 y1 y2 y3 y4 y5 y6
   unfold slices_IndexFunc_105_at_181_3_182.l0
   repeat' first
   | (with_reducible exact ih0 _ _ _ _ _ _ _)
   | (with_reducible exact LeO.refl _)
   | (with_reducible exact LeO.none _)
   | (with_reducible refine LeO.ite ?_ ?_)
   | (with_reducible refine LeO.bind ?_ (fun _ => ?_))
   | exact ih0 _ _ _ _ _ _ _
   | exact LeO.none _
   | refine LeO.ite ?_ ?_
   | refine LeO.bind ?_ (fun _ => ?_)
theorem slices_IndexFunc_105_at_181_3_182.mono : ∀ a0 a1 a2 a3 a4 k, LeO (slices_IndexFunc_105_at_181_3_182.f k a0 a1 a2 a3 a4) (slices_IndexFunc_105_at_181_3_182.f (k + 1) a0 a1 a2 a3 a4) := by
 intro a0 a1 a2 a3 a4 k
 have ih0 := slices_IndexFunc_105_at_181_3_182.mono_l k
 unfold slices_IndexFunc_105_at_181_3_182.f
 repeat' first
   | (with_reducible exact ih0 _ _ _ _ _ _ _)
   | (with_reducible exact LeO.refl _)
   | (with_reducible exact LeO.none _)
   | (with_reducible refine LeO.ite ?_ ?_)
   | (with_reducible refine LeO.bind ?_ (fun _ => ?_))
   | exact ih0 _ _ _ _ _ _ _
   | exact LeO.none _
   | refine LeO.ite ?_ ?_
   | refine LeO.bind ?_ (fun _ => ?_)
set_option maxHeartbeats 8000000 in
set_option maxRecDepth 100000 in
theorem slices_IndexFunc_105_at_181_3_182.calls (k : Nat) (A0 : Option Addr) (c0 : Nat) (l0 : List (S182)) (b1_0 : Nat) (b1_1 : Nat) (a1_0_0 : Int) (a1_1_0 : Int) (a1_1_1 : Int) (a1_1_2 : Int) (r : Int) (w : World) (hr0 : Kd.C k182 w A0 l0.length l0) (hc0 : l0.length ≤ c0) (hb1_0 : w.heap[b1_0]? = some (.cells #[.int .i64 a1_0_0] 3 (0, 0))) (hb1_1 : w.heap[b1_1]? = some (.cells #[.int .i64 a1_1_0, .int .i64 a1_1_1, .int .i64 a1_1_2] 182 (0, 0))) (h : slices_IndexFunc_105_at_181_3_182.f k l0 a1_0_0 a1_1_0 a1_1_1 a1_1_2 = some r) :
  Calls Try.prog 105 #[.slice A0 l0.length c0, .func (.func 181) #[] #[.pointer (some ⟨b1_0, 0, none⟩), .pointer (some ⟨b1_1, 0, none⟩)]] w fun e w' => e = .returned (.int .i64 r) ∧ Below w.heap.size w w' := by
 have hu182 := Try.underlying182
 have HR0 := Aside0.mk hr0
 have HC0 := Aside0.mk hc0
 clear hr0 hc0
 have BK46 := Aside0.mk hb1_0
 clear hb1_0
 have BK47 := Aside0.mk hb1_1
 clear hb1_1
 have HB := Aside0.mk (Below.refl w.heap.size w)
 have H : (slices_IndexFunc_105_at_181_3_182.l0 k l0 (l0.length : Int) 0 a1_0_0 a1_1_0 a1_1_1 a1_1_2) = some r := h
 clear h
 have H' := Aside0.mk H
 clear H
 go_enter Try.func105, Try.ntmps105
 go_wp2
 go_loopg [8] k (fun kq v8 w' => ∃ (x8_1 : Int), v8 = .int .i64 x8_1 ∧ Aside0 (slices_IndexFunc_105_at_181_3_182.l0 kq l0 (l0.length : Int) x8_1 a1_0_0 a1_1_0 a1_1_1 a1_1_2 = some r) ∧ Aside0 (kq ≤ k) ∧ Aside0 (w'.heap[b1_0]? = some (.cells #[.int .i64 a1_0_0] 3 (0, 0))) ∧ Aside0 (w'.heap[b1_1]? = some (.cells #[.int .i64 a1_1_0, .int .i64 a1_1_1, .int .i64 a1_1_2] 182 (0, 0))) ∧ Aside0 (Below w.heap.size w w'))
 case atStart => exact ⟨(0), (by first | rfl | (simp; done) | (simp [*]; done) | (simp [isEmpty_bne]; done)), H', ⟨Nat.le_refl _⟩, ⟨by (with_reducible repeat (first | refine blk_drewN ?_ _ | refine blk_drew ?_ | refine blk_alloc ?_ _)); exact BK46.out⟩, ⟨by (with_reducible repeat (first | refine blk_drewN ?_ _ | refine blk_drew ?_ | refine blk_alloc ?_ _)); exact BK47.out⟩, ⟨by repeat (first | (with_reducible first | exact HB.out | apply below_alloc | apply pw_below_drewN | apply below_drew1 | refine below_set ?_ GE46.out | refine below_set ?_ GE47.out) | exact HB.out)⟩⟩
 case round =>
  clear H'
  try clear p2
  obtain ⟨x8_1, rfl, HA, HK1, BK46, BK47, HB⟩ := hrel
  cases gk with
  | zero => exact absurd HA.out (by simp [slices_IndexFunc_105_at_181_3_182.l0])
  | succ k1 =>
   have H := HA.out
   clear HA
   simp only [slices_IndexFunc_105_at_181_3_182.l0] at H
   by_cases c3 : x8_1 < (l0.length : Int)
   ·rw [if_pos c3] at H
    have c3b0 : decide (x8_1 < (l0.length : Int)) = true := decide_eq_true c3
    clear c3
    by_cases c4 : 0 ≤ x8_1
    ·rw [if_pos c4] at H
     have c4b0 : decide (0 ≤ x8_1) = true := decide_eq_true c4
     clear c4
     by_cases c5 : x8_1 < (l0.length : Int)
     ·rw [if_pos c5] at H
      have c5b0 : decide (x8_1 < (l0.length : Int)) = true := decide_eq_true c5
      clear c5
      replace H := Option.bind_eq_some_iff.mp H
      obtain ⟨t269, A60, H⟩ := H
      replace H : (if t269 = true then (some x8_1) else (slices_IndexFunc_105_at_181_3_182.l0 k1 l0 (l0.length : Int) (wrap64 (x8_1 + 1)) a1_0_0 a1_1_0 a1_1_1 a1_1_2)) = some r := H
      have A6 := Aside0.mk A60
      clear A60
      by_cases c7 : t269 = true
      ·subst c7
       have H1 : (some x8_1) = some r := by rw [if_pos rfl] at H; exact H
       clear H
       have H := H1
       clear H1
       obtain rfl := Option.some.inj H
       have p268 : 0 ≤ (x8_1 : Int) := of_decide_eq_true (by first | (with_reducible assumption) | assumption)
       have q268 : x8_1 < (l0.length : Int) := of_decide_eq_true (by first | (with_reducible assumption) | assumption)
       obtain ⟨ad268, e268, hx268_0, hx268_1, hx268_2⟩ := at_T182 HR0.out x8_1 p268 q268
       cases e268
       replace hx268_0 := (HB.out.cell (World.block_lt_of_cell? w _ hx268_0)).trans hx268_0
       replace hx268_1 := (HB.out.cell (World.block_lt_of_cell? w _ hx268_1)).trans hx268_1
       replace hx268_2 := (HB.out.cell (World.block_lt_of_cell? w _ hx268_2)).trans hx268_2
       replace p268 := eq_true p268
       replace q268 := eq_true q268
       go_wp2_with (first | (go_at_call 181; (with_reducible refine (fixpoint_validStep_1_1.calls ((rd_T182 l0 x8_1).f0) ((rd_T182 l0 x8_1).f1) ((rd_T182 l0 x8_1).f2) _ a1_0_0 _ a1_1_0 a1_1_1 a1_1_2 true _ ?side1 ?side2 A6.out).mono ?_); (case side1 => exact (by (with_reducible repeat (first | refine blk_drewN ?_ _ | refine blk_drew ?_ | refine blk_alloc ?_ _)); exact BK46.out)); (case side2 => exact (by (with_reducible repeat (first | refine blk_drewN ?_ _ | refine blk_drew ?_ | refine blk_alloc ?_ _)); exact BK47.out)); rintro e w8 ⟨rfl, hb⟩; have n0_ := Aside0.mk (blk_below (g := b1_0) (o := .cells #[.int .i64 a1_0_0] 3 (0, 0)) (by (with_reducible repeat (first | refine blk_drewN ?_ _ | refine blk_drew ?_ | refine blk_alloc ?_ _)); exact BK46.out) hb); have n1_ := Aside0.mk (blk_below (g := b1_1) (o := .cells #[.int .i64 a1_1_0, .int .i64 a1_1_1, .int .i64 a1_1_2] 182 (0, 0)) (by (with_reducible repeat (first | refine blk_drewN ?_ _ | refine blk_drew ?_ | refine blk_alloc ?_ _)); exact BK47.out) hb); have n2_ := Aside0.mk (below_step (by repeat (first | (with_reducible first | exact HB.out | apply below_alloc | apply pw_below_drewN | apply below_drew1 | refine below_set ?_ GE46.out | refine below_set ?_ GE47.out) | exact HB.out)) hb); clear BK46; clear BK47; clear HB; have BK46 := n0_; have BK47 := n1_; have HB := n2_; clear n0_ n1_ n2_; (try clear hb); (try clear hb2); (try clear hk); (try clear hi)))
       go_ret
       exact ⟨by first | rfl | (simp [errW_none, errW_some] <;> rfl) | (simp [*, errW_none, errW_some] <;> rfl), by repeat (first | (with_reducible first | exact HB.out | apply below_alloc | apply pw_below_drewN | apply below_drew1 | refine below_set ?_ GE46.out | refine below_set ?_ GE47.out) | exact HB.out)⟩
      ·replace c7 := Bool.eq_false_iff.mpr c7
       subst c7
       have H1 : (slices_IndexFunc_105_at_181_3_182.l0 k1 l0 (l0.length : Int) (wrap64 (x8_1 + 1)) a1_0_0 a1_1_0 a1_1_1 a1_1_2) = some r := by rw [if_neg (show ¬ (false = true) by decide)] at H; exact H
       clear H
       have H := H1
       clear H1
       have H' := Aside0.mk H
       clear H
       have p268 : 0 ≤ (x8_1 : Int) := of_decide_eq_true (by first | (with_reducible assumption) | assumption)
       have q268 : x8_1 < (l0.length : Int) := of_decide_eq_true (by first | (with_reducible assumption) | assumption)
       obtain ⟨ad268, e268, hx268_0, hx268_1, hx268_2⟩ := at_T182 HR0.out x8_1 p268 q268
       cases e268
       replace hx268_0 := (HB.out.cell (World.block_lt_of_cell? w _ hx268_0)).trans hx268_0
       replace hx268_1 := (HB.out.cell (World.block_lt_of_cell? w _ hx268_1)).trans hx268_1
       replace hx268_2 := (HB.out.cell (World.block_lt_of_cell? w _ hx268_2)).trans hx268_2
       replace p268 := eq_true p268
       replace q268 := eq_true q268
       go_wp2_with (first | (go_at_call 181; (with_reducible refine (fixpoint_validStep_1_1.calls ((rd_T182 l0 x8_1).f0) ((rd_T182 l0 x8_1).f1) ((rd_T182 l0 x8_1).f2) _ a1_0_0 _ a1_1_0 a1_1_1 a1_1_2 false _ ?side1 ?side2 A6.out).mono ?_); (case side1 => exact (by (with_reducible repeat (first | refine blk_drewN ?_ _ | refine blk_drew ?_ | refine blk_alloc ?_ _)); exact BK46.out)); (case side2 => exact (by (with_reducible repeat (first | refine blk_drewN ?_ _ | refine blk_drew ?_ | refine blk_alloc ?_ _)); exact BK47.out)); rintro e w9 ⟨rfl, hb⟩; have n0_ := Aside0.mk (blk_below (g := b1_0) (o := .cells #[.int .i64 a1_0_0] 3 (0, 0)) (by (with_reducible repeat (first | refine blk_drewN ?_ _ | refine blk_drew ?_ | refine blk_alloc ?_ _)); exact BK46.out) hb); have n1_ := Aside0.mk (blk_below (g := b1_1) (o := .cells #[.int .i64 a1_1_0, .int .i64 a1_1_1, .int .i64 a1_1_2] 182 (0, 0)) (by (with_reducible repeat (first | refine blk_drewN ?_ _ | refine blk_drew ?_ | refine blk_alloc ?_ _)); exact BK47.out) hb); have n2_ := Aside0.mk (below_step (by repeat (first | (with_reducible first | exact HB.out | apply below_alloc | apply pw_below_drewN | apply below_drew1 | refine below_set ?_ GE46.out | refine below_set ?_ GE47.out) | exact HB.out)) hb); clear BK46; clear BK47; clear HB; have BK46 := n0_; have BK47 := n1_; have HB := n2_; clear n0_ n1_ n2_; (try clear hb); (try clear hb2); (try clear hk); (try clear hi)))
       go_roundg k1
       case measure => have := HK1.out; omega
       case rel => exact ⟨(wrap64 (x8_1 + 1)), (by first | rfl | (simp; done) | (simp [*]; done) | (simp [isEmpty_bne]; done)), H', ⟨by have := HK1.out; omega⟩, ⟨by (with_reducible repeat (first | refine blk_drewN ?_ _ | refine blk_drew ?_ | refine blk_alloc ?_ _)); exact BK46.out⟩, ⟨by (with_reducible repeat (first | refine blk_drewN ?_ _ | refine blk_drew ?_ | refine blk_alloc ?_ _)); exact BK47.out⟩, ⟨by repeat (first | (with_reducible first | exact HB.out | apply below_alloc | apply pw_below_drewN | apply below_drew1 | refine below_set ?_ GE46.out | refine below_set ?_ GE47.out) | exact HB.out)⟩⟩
     ·rw [if_neg c5] at H
      exact absurd H (by simp)
    ·rw [if_neg c4] at H
     exact absurd H (by simp)
   ·rw [if_neg c3] at H
    have c3b0 : decide (x8_1 < (l0.length : Int)) = false := decide_eq_false c3
    clear c3
    obtain rfl := Option.some.inj H
    go_wp2
    go_ret
    exact ⟨by first | rfl | (simp [errW_none, errW_some] <;> rfl) | (simp [*, errW_none, errW_some] <;> rfl), by repeat (first | (with_reducible first | exact HB.out | apply below_alloc | apply pw_below_drewN | apply below_drew1 | refine below_set ?_ GE46.out | refine below_set ?_ GE47.out) | exact HB.out)⟩

/-! ### slices_ContainsFunc_180_at_181_3_182: function 302 -/
def slices_ContainsFunc_180_at_181_3_182.f (k : Nat) (l0 : List (S182)) (a1_0_0 : Int) (a1_1_0 : Int) (a1_1_1 : Int) (a1_1_2 : Int) : Option (Bool) := (slices_IndexFunc_105_at_181_3_182.f k l0 a1_0_0 a1_1_0 a1_1_1 a1_1_2).bind fun t270 => (some (decide (t270 ≥ 0)))
theorem slices_ContainsFunc_180_at_181_3_182.mono : ∀ a0 a1 a2 a3 a4 k, LeO (slices_ContainsFunc_180_at_181_3_182.f k a0 a1 a2 a3 a4) (slices_ContainsFunc_180_at_181_3_182.f (k + 1) a0 a1 a2 a3 a4) := by
 intro a0 a1 a2 a3 a4 k
 unfold slices_ContainsFunc_180_at_181_3_182.f
 repeat' first
   | (with_reducible exact slices_IndexFunc_105_at_181_3_182.mono _ _ _ _ _ _)
   | (with_reducible exact LeO.refl _)
   | (with_reducible exact LeO.none _)
   | (with_reducible refine LeO.ite ?_ ?_)
   | (with_reducible refine LeO.bind ?_ (fun _ => ?_))
   | exact slices_IndexFunc_105_at_181_3_182.mono _ _ _ _ _ _
   | exact LeO.none _
   | refine LeO.ite ?_ ?_
   | refine LeO.bind ?_ (fun _ => ?_)
set_option maxHeartbeats 8000000 in
set_option maxRecDepth 100000 in
theorem slices_ContainsFunc_180_at_181_3_182.calls (k : Nat) (A0 : Option Addr) (c0 : Nat) (l0 : List (S182)) (b1_0 : Nat) (b1_1 : Nat) (a1_0_0 : Int) (a1_1_0 : Int) (a1_1_1 : Int) (a1_1_2 : Int) (r : Bool) (w : World) (hr0 : Kd.C k182 w A0 l0.length l0) (hc0 : l0.length ≤ c0) (hb1_0 : w.heap[b1_0]? = some (.cells #[.int .i64 a1_0_0] 3 (0, 0))) (hb1_1 : w.heap[b1_1]? = some (.cells #[.int .i64 a1_1_0, .int .i64 a1_1_1, .int .i64 a1_1_2] 182 (0, 0))) (h : slices_ContainsFunc_180_at_181_3_182.f k l0 a1_0_0 a1_1_0 a1_1_1 a1_1_2 = some r) :
  Calls Try.prog 180 #[.slice A0 l0.length c0, .func (.func 181) #[] #[.pointer (some ⟨b1_0, 0, none⟩), .pointer (some ⟨b1_1, 0, none⟩)]] w fun e w' => e = .returned (.bool r) ∧ Below w.heap.size w w' := by
 have HR0 := Aside0.mk hr0
 have HC0 := Aside0.mk hc0
 clear hr0 hc0
 have BK46 := Aside0.mk hb1_0
 clear hb1_0
 have BK47 := Aside0.mk hb1_1
 clear hb1_1
 have HB := Aside0.mk (Below.refl w.heap.size w)
 have H : ((slices_IndexFunc_105_at_181_3_182.f k l0 a1_0_0 a1_1_0 a1_1_1 a1_1_2).bind fun t270 => (some (decide (t270 ≥ 0)))) = some r := h
 clear h
 replace H := Option.bind_eq_some_iff.mp H
 obtain ⟨t270, A30, H⟩ := H
 replace H : (some (decide (t270 ≥ 0))) = some r := H
 have A3 := Aside0.mk A30
 clear A30
 obtain rfl := Option.some.inj H
 go_enter Try.func180, Try.ntmps180
 go_wp2_with (first | (go_at_call 105; (with_reducible refine (slices_IndexFunc_105_at_181_3_182.calls k _ _ l0 _ _ a1_0_0 a1_1_0 a1_1_1 a1_1_2 t270 _ ?side1 ?side2 ?side3 ?side4 A3.out).mono ?_); (case side1 => repeat (first | exact HR0.out | (with_reducible refine Kd.C_alloc ?_ _) | (with_reducible refine Kd.C_drewN ?_ _) | (with_reducible refine Kd.C_drew ?_))); (case side2 => exact HC0.out); (case side3 => exact (by (with_reducible repeat (first | refine blk_drewN ?_ _ | refine blk_drew ?_ | refine blk_alloc ?_ _)); exact BK46.out)); (case side4 => exact (by (with_reducible repeat (first | refine blk_drewN ?_ _ | refine blk_drew ?_ | refine blk_alloc ?_ _)); exact BK47.out)); rintro e w4 ⟨rfl, hb⟩; have n0_ := Aside0.mk (blk_below (g := b1_0) (o := .cells #[.int .i64 a1_0_0] 3 (0, 0)) (by (with_reducible repeat (first | refine blk_drewN ?_ _ | refine blk_drew ?_ | refine blk_alloc ?_ _)); exact BK46.out) hb); have n1_ := Aside0.mk (blk_below (g := b1_1) (o := .cells #[.int .i64 a1_1_0, .int .i64 a1_1_1, .int .i64 a1_1_2] 182 (0, 0)) (by (with_reducible repeat (first | refine blk_drewN ?_ _ | refine blk_drew ?_ | refine blk_alloc ?_ _)); exact BK47.out) hb); have n2_ := Aside0.mk (below_step (by repeat (first | (with_reducible first | exact HB.out | apply below_alloc | apply pw_below_drewN | apply below_drew1 | refine below_set ?_ GE46.out | refine below_set ?_ GE47.out) | exact HB.out)) hb); clear BK46; clear BK47; clear HB; have BK46 := n0_; have BK47 := n1_; have HB := n2_; clear n0_ n1_ n2_; (try clear hb); (try clear hb2); (try clear hk); (try clear hi)))
 go_ret
 exact ⟨by first | rfl | (simp [errW_none, errW_some] <;> rfl) | (simp [*, errW_none, errW_some] <;> rfl), by repeat (first | (with_reducible first | exact HB.out | apply below_alloc | apply pw_below_drewN | apply below_drew1 | refine below_set ?_ GE46.out | refine below_set ?_ GE47.out) | exact HB.out)⟩

/-! ### fixpoint_validStep_1: function 179 -/
def fixpoint_validStep_1.f (k : Nat) (a0 : Int) (l1_0_0 : List (S182)) (a2_0_0 : Int) (a3_0_0 : Int) (a3_0_1 : Int) (a3_0_2 : Int) : Option (Bool) := if 0 ≤ a2_0_0 then (if a2_0_0 ≤ (l1_0_0.length : Int) then ((slices_ContainsFunc_180_at_181_3_182.f k (l1_0_0.take (a2_0_0 : Int).toNat) a0 a3_0_0 a3_0_1 a3_0_2).bind fun t276 => (some (!t276))) else (none)) else (none)
theorem fixpoint_validStep_1.mono : ∀ a0 a1 a2 a3 a4 a5 k, LeO (fixpoint_validStep_1.f k a0 a1 a2 a3 a4 a5) (fixpoint_validStep_1.f (k + 1) a0 a1 a2 a3 a4 a5) := by
 intro a0 a1 a2 a3 a4 a5 k
 unfold fixpoint_validStep_1.f
 repeat' first
   | (with_reducible exact slices_ContainsFunc_180_at_181_3_182.mono _ _ _ _ _ _)
   | (with_reducible exact LeO.refl _)
   | (with_reducible exact LeO.none _)
   | (with_reducible refine LeO.ite ?_ ?_)
   | (with_reducible refine LeO.bind ?_ (fun _ => ?_))
   | exact slices_ContainsFunc_180_at_181_3_182.mono _ _ _ _ _ _
   | exact LeO.none _
   | refine LeO.ite ?_ ?_
   | refine LeO.bind ?_ (fun _ => ?_)
set_option maxHeartbeats 8000000 in
set_option maxRecDepth 100000 in
theorem fixpoint_validStep_1.calls (k : Nat) (a0 : Int) (b1_0 : Nat) (A1_0_0 : Option Addr) (c1_0_0 : Nat) (l1_0_0 : List (S182)) (b2_0 : Nat) (a2_0_0 : Int) (b3_0 : Nat) (a3_0_0 : Int) (a3_0_1 : Int) (a3_0_2 : Int) (r : Bool) (w : World) (hr1_0_0 : Kd.C k182 w A1_0_0 l1_0_0.length l1_0_0) (hc1_0_0 : l1_0_0.length ≤ c1_0_0) (hb1_0 : w.heap[b1_0]? = some (.cells #[.slice A1_0_0 l1_0_0.length c1_0_0] 69 (0, 0))) (hb2_0 : w.heap[b2_0]? = some (.cells #[.int .i64 a2_0_0] 3 (0, 0))) (hb3_0 : w.heap[b3_0]? = some (.cells #[.int .i64 a3_0_0, .int .i64 a3_0_1, .int .i64 a3_0_2] 182 (0, 0))) (h : fixpoint_validStep_1.f k a0 l1_0_0 a2_0_0 a3_0_0 a3_0_1 a3_0_2 = some r) :
  Calls Try.prog 179 #[.int .i64 a0, .pointer (some ⟨b1_0, 0, none⟩), .pointer (some ⟨b2_0, 0, none⟩), .pointer (some ⟨b3_0, 0, none⟩)] w fun e w' => e = .returned (.bool r) ∧ Below w.heap.size w w' := by
 have HR1_0_0 := Aside0.mk hr1_0_0
 have HC1_0_0 := Aside0.mk hc1_0_0
 clear hr1_0_0 hc1_0_0
 have BK46 := Aside0.mk hb1_0
 clear hb1_0
 have BK52 := Aside0.mk hb2_0
 clear hb2_0
 have BK58 := Aside0.mk hb3_0
 clear hb3_0
 have HB := Aside0.mk (Below.refl w.heap.size w)
 have H : (if 0 ≤ a2_0_0 then (if a2_0_0 ≤ (l1_0_0.length : Int) then ((slices_ContainsFunc_180_at_181_3_182.f k (l1_0_0.take (a2_0_0 : Int).toNat) a0 a3_0_0 a3_0_1 a3_0_2).bind fun t276 => (some (!t276))) else (none)) else (none)) = some r := h
 clear h
 by_cases c5 : 0 ≤ a2_0_0
 ·rw [if_pos c5] at H
  have c5b0 := eq_true c5
  have c5b1 : decide (0 ≤ a2_0_0) = true := decide_eq_true c5
  clear c5
  by_cases c6 : a2_0_0 ≤ (l1_0_0.length : Int)
  ·rw [if_pos c6] at H
   have c6b0 := eq_true c6
   have c6b1 : decide (a2_0_0 ≤ (l1_0_0.length : Int)) = true := decide_eq_true c6
   clear c6
   obtain ⟨y272, hy272⟩ : ∃ y_ : List (S182), y_ = (l1_0_0.take (a2_0_0 : Int).toNat) := ⟨_, rfl⟩
   replace H : ((slices_ContainsFunc_180_at_181_3_182.f k y272 a0 a3_0_0 a3_0_1 a3_0_2).bind fun t276 => (some (!t276))) = some r := by first | (rw [hy272]; with_reducible exact H) | (have H2_ := (Option.bind_some _ _).symm.trans H; rw [hy272]; with_reducible exact H2_) | (have H2_ := (Option.bind_some _ _).symm.trans H; with_reducible exact H2_) | with_reducible exact H | (rw [hy272]; exact H) | exact H
   have Ny272 := Aside0.mk hy272
   clear hy272
   replace H := Option.bind_eq_some_iff.mp H
   obtain ⟨t276, A70, H⟩ := H
   replace H : (some (!t276)) = some r := H
   have A7 := Aside0.mk A70
   clear A70
   obtain rfl := Option.some.inj H
   go_enter Try.func179, Try.ntmps179
   go_wp2_with (first | ((with_reducible refine gate_dst (N := 4) rfl ?_); refine box_event ?hg (N := 4) ?hd (cs := #[.int .i64 a0]) (t := 3) ?hr ?_; (case hd => rfl); (case hg => rfl); (case hr => first | (go_simp; done) | (go_simp; rfl)); intro gb271 hg w8 hbox hb; have n0_ := Aside0.mk (blk_below (g := b1_0) (o := .cells #[.slice A1_0_0 l1_0_0.length c1_0_0] 69 (0, 0)) (by (with_reducible repeat (first | refine blk_drewN ?_ _ | refine blk_drew ?_ | refine blk_alloc ?_ _)); exact BK46.out) hb); have n1_ := Aside0.mk (blk_below (g := b2_0) (o := .cells #[.int .i64 a2_0_0] 3 (0, 0)) (by (with_reducible repeat (first | refine blk_drewN ?_ _ | refine blk_drew ?_ | refine blk_alloc ?_ _)); exact BK52.out) hb); have n2_ := Aside0.mk (blk_below (g := b3_0) (o := .cells #[.int .i64 a3_0_0, .int .i64 a3_0_1, .int .i64 a3_0_2] 182 (0, 0)) (by (with_reducible repeat (first | refine blk_drewN ?_ _ | refine blk_drew ?_ | refine blk_alloc ?_ _)); exact BK58.out) hb); have n3_ := Aside0.mk (below_step (by repeat (first | (with_reducible first | exact HB.out | apply below_alloc | apply pw_below_drewN | apply below_drew1 | refine below_set ?_ GE46.out | refine below_set ?_ GE52.out | refine below_set ?_ GE58.out) | exact HB.out)) hb); have n4_ := Aside0.mk (hbox); have n5_ := Aside0.mk ((by rw [hg]; exact (below_size (by repeat (first | (with_reducible first | exact HB.out | apply below_alloc | apply pw_below_drewN | apply below_drew1 | refine below_set ?_ GE46.out | refine below_set ?_ GE52.out | refine below_set ?_ GE58.out) | exact HB.out))) : w.heap.size ≤ gb271)); have n6_ := Aside0.mk ((by rw [hg]; exact (below_size (by repeat (first | (with_reducible first | exact HB.out | apply below_alloc | apply pw_below_drewN | apply below_drew1 | refine below_set ?_ GE46.out | refine below_set ?_ GE52.out | refine below_set ?_ GE58.out) | exact HB.out))) : w.heap.size ≤ gb271)); have n7_ := Aside0.mk ((by rw [hg]; exact Nat.ne_of_lt (blk_lt (g := b1_0) (o := .cells #[.slice A1_0_0 l1_0_0.length c1_0_0] 69 (0, 0)) (by (with_reducible repeat (first | refine blk_drewN ?_ _ | refine blk_drew ?_ | refine blk_alloc ?_ _)); exact BK46.out)) : b1_0 ≠ gb271)); have n8_ := Aside0.mk ((by rw [hg]; exact Nat.ne_of_gt (blk_lt (g := b1_0) (o := .cells #[.slice A1_0_0 l1_0_0.length c1_0_0] 69 (0, 0)) (by (with_reducible repeat (first | refine blk_drewN ?_ _ | refine blk_drew ?_ | refine blk_alloc ?_ _)); exact BK46.out)) : gb271 ≠ b1_0)); have n9_ := Aside0.mk ((by rw [hg]; exact Nat.ne_of_lt (blk_lt (g := b2_0) (o := .cells #[.int .i64 a2_0_0] 3 (0, 0)) (by (with_reducible repeat (first | refine blk_drewN ?_ _ | refine blk_drew ?_ | refine blk_alloc ?_ _)); exact BK52.out)) : b2_0 ≠ gb271)); have n10_ := Aside0.mk ((by rw [hg]; exact Nat.ne_of_gt (blk_lt (g := b2_0) (o := .cells #[.int .i64 a2_0_0] 3 (0, 0)) (by (with_reducible repeat (first | refine blk_drewN ?_ _ | refine blk_drew ?_ | refine blk_alloc ?_ _)); exact BK52.out)) : gb271 ≠ b2_0)); have n11_ := Aside0.mk ((by rw [hg]; exact Nat.ne_of_lt (blk_lt (g := b3_0) (o := .cells #[.int .i64 a3_0_0, .int .i64 a3_0_1, .int .i64 a3_0_2] 182 (0, 0)) (by (with_reducible repeat (first | refine blk_drewN ?_ _ | refine blk_drew ?_ | refine blk_alloc ?_ _)); exact BK58.out)) : b3_0 ≠ gb271)); have n12_ := Aside0.mk ((by rw [hg]; exact Nat.ne_of_gt (blk_lt (g := b3_0) (o := .cells #[.int .i64 a3_0_0, .int .i64 a3_0_1, .int .i64 a3_0_2] 182 (0, 0)) (by (with_reducible repeat (first | refine blk_drewN ?_ _ | refine blk_drew ?_ | refine blk_alloc ?_ _)); exact BK58.out)) : gb271 ≠ b3_0)); clear BK46; clear BK52; clear BK58; clear HB; have BK46 := n0_; have BK52 := n1_; have BK58 := n2_; have HB := n3_; have BK271 := n4_; have GW271 := n5_; have GE271 := n6_; have NB46_271 := n7_; have NB271_46 := n8_; have NB52_271 := n9_; have NB271_52 := n10_; have NB58_271 := n11_; have NB271_58 := n12_; clear n0_ n1_ n2_ n3_ n4_ n5_ n6_ n7_ n8_ n9_ n10_ n11_ n12_; clear hb hbox hg; have hnb11 := NB46_271.out; have hnc11 := NB271_46.out; have hcz12_0 : w8.cell? ⟨b1_0, 0, none⟩ = some (.slice A1_0_0 l1_0_0.length c1_0_0) := (blk_cell BK46.out 0).trans rfl; have hfz12_0 := blk_frozen BK46.out 0; have hnb14 := NB52_271.out; have hnc14 := NB271_52.out; have hcz15_0 : w8.cell? ⟨b2_0, 0, none⟩ = some (.int .i64 a2_0_0) := (blk_cell BK52.out 0).trans rfl; have hfz15_0 := blk_frozen BK52.out 0; have q16 : (a2_0_0 : Int) ≤ ((l1_0_0.length : Int) : Int) := of_decide_eq_true (by first | (with_reducible assumption) | assumption); obtain ⟨i016, hi016, _, hsz16, _⟩ := info_parts info182; have hroom16 : l1_0_0.length ≤ c1_0_0 := HC1_0_0.out; have hC16 : Kd.C k182 _ A1_0_0 l1_0_0.length l1_0_0 := HR1_0_0.out; have hcut16 := cut_to (P := Try.prog) 69 182 .i64 Try.underlying69 hi016 A1_0_0 l1_0_0.length c1_0_0 a2_0_0 (of_decide_eq_true (by first | (with_reducible assumption) | assumption)) q16 hroom16; have hr16 := Kd.C_take (m := (a2_0_0 : Int).toNat) hC16 (by omega); have hy16 : y272.length = (a2_0_0 : Int).toNat := (by rw [Ny272.out, List.length_take]; omega); rw [← Ny272.out] at hr16; rw [← hy16] at hcut16; have HR275 := Aside0.mk hr16; have HC275 := Aside0.mk (show y272.length ≤ c1_0_0 from by omega); clear hr16 hC16 hroom16 hi016 hsz16; have KY16 := Aside0.mk hy16; clear hy16; replace q16 := eq_true q16) | (go_at_call 180; (with_reducible refine (slices_ContainsFunc_180_at_181_3_182.calls k _ _ y272 _ _ a0 a3_0_0 a3_0_1 a3_0_2 t276 _ ?side1 ?side2 ?side3 ?side4 A7.out).mono ?_); (case side1 => repeat (first | exact (Kd.C_below HR275.out HB.out) | (with_reducible refine Kd.C_alloc ?_ _) | (with_reducible refine Kd.C_drewN ?_ _) | (with_reducible refine Kd.C_drew ?_))); (case side2 => exact HC275.out); (case side3 => exact (by (with_reducible repeat (first | refine blk_drewN ?_ _ | refine blk_drew ?_ | refine blk_alloc ?_ _)); exact BK271.out)); (case side4 => exact (by (with_reducible repeat (first | refine blk_drewN ?_ _ | refine blk_drew ?_ | refine blk_alloc ?_ _)); exact BK58.out)); rintro e w17 ⟨rfl, hb⟩; have n0_ := Aside0.mk (blk_below (g := b1_0) (o := .cells #[.slice A1_0_0 l1_0_0.length c1_0_0] 69 (0, 0)) (by (with_reducible repeat (first | refine blk_drewN ?_ _ | refine blk_drew ?_ | refine blk_alloc ?_ _)); exact BK46.out) hb); have n1_ := Aside0.mk (blk_below (g := b2_0) (o := .cells #[.int .i64 a2_0_0] 3 (0, 0)) (by (with_reducible repeat (first | refine blk_drewN ?_ _ | refine blk_drew ?_ | refine blk_alloc ?_ _)); exact BK52.out) hb); have n2_ := Aside0.mk (blk_below (g := b3_0) (o := .cells #[.int .i64 a3_0_0, .int .i64 a3_0_1, .int .i64 a3_0_2] 182 (0, 0)) (by (with_reducible repeat (first | refine blk_drewN ?_ _ | refine blk_drew ?_ | refine blk_alloc ?_ _)); exact BK58.out) hb); have n3_ := Aside0.mk (blk_below (g := gb271) (o := .cells #[.int .i64 a0] 3 (0, 0)) (by (with_reducible repeat (first | refine blk_drewN ?_ _ | refine blk_drew ?_ | refine blk_alloc ?_ _)); exact BK271.out) hb); have n4_ := Aside0.mk (below_step (by repeat (first | (with_reducible first | exact HB.out | apply below_alloc | apply pw_below_drewN | apply below_drew1 | refine below_set ?_ GE46.out | refine below_set ?_ GE52.out | refine below_set ?_ GE58.out | refine below_set ?_ GE271.out) | exact HB.out)) hb); clear BK46; clear BK52; clear BK58; clear BK271; clear HB; have BK46 := n0_; have BK52 := n1_; have BK58 := n2_; have BK271 := n3_; have HB := n4_; clear n0_ n1_ n2_ n3_ n4_; (try clear hb); (try clear hb2); (try clear hk); (try clear hi)))
   go_ret
   exact ⟨by first | rfl | (simp [errW_none, errW_some] <;> rfl) | (simp [*, errW_none, errW_some] <;> rfl), by repeat (first | (with_reducible first | exact HB.out | apply below_alloc | apply pw_below_drewN | apply below_drew1 | refine below_set ?_ GE46.out | refine below_set ?_ GE52.out | refine below_set ?_ GE58.out | refine below_set ?_ GE271.out) | exact HB.out)⟩
  ·rw [if_neg c6] at H
   exact absurd H (by simp)
 ·rw [if_neg c5] at H
  exact absurd H (by simp)

/-! ### slices_IndexFunc_217_at_179_69_3_182: function 301 -/
def slices_IndexFunc_217_at_179_69_3_182.l0 : Nat → List Int → Int → Int → List (S182) → Int → Int → Int → Int → Option (Int)
 | 0, _, _, _, _, _, _, _, _ => none
 | k + 1, x0, x7, x8, x47000, x48000, x49000, x49001, x49002 => if x8 < x7 then (if 0 ≤ x8 then (if x8 < (x0.length : Int) then ((fixpoint_validStep_1.f k (rd x0 x8) x47000 x48000 x49000 x49001 x49002).bind fun t278 => (if t278 = true then (some x8) else (slices_IndexFunc_217_at_179_69_3_182.l0 k x0 x7 (wrap64 (x8 + 1)) x47000 x48000 x49000 x49001 x49002))) else (none)) else (none)) else (some (-1))
def slices_IndexFunc_217_at_179_69_3_182.f (k : Nat) (l0 : List Int) (l1_0_0 : List (S182)) (a1_1_0 : Int) (a1_2_0 : Int) (a1_2_1 : Int) (a1_2_2 : Int) : Option (Int) := slices_IndexFunc_217_at_179_69_3_182.l0 k l0 (l0.length : Int) 0 l1_0_0 a1_1_0 a1_2_0 a1_2_1 a1_2_2
theorem slices_IndexFunc_217_at_179_69_3_182.mono_l : ∀ k, (∀ y0 y1 y2 y3 y4 y5 y6 y7, LeO (slices_IndexFunc_217_at_179_69_3_182.l0 k y0 y1 y2 y3 y4 y5 y6 y7) (slices_IndexFunc_217_at_179_69_3_182.l0 (k + 1) y0 y1 y2 y3 y4 y5 y6 y7))
 | 0 => fun _ _ _ _ _ _ _ _ r h => by simp [slices_IndexFunc_217_at_179_69_3_182.l0] at h
 | k + 1 => by
  have ih0 := slices_IndexFunc_217_at_179_69_3_182.mono_l k
  ·intro y0 y1 y2 y3 y4 y5 y6 y7
   unfold slices_IndexFunc_217_at_179_69_3_182.l0
   repeat' first
   | (with_reducible exact ih0 _ _ _ _ _ _ _ _)
   | (with_reducible exact fixpoint_validStep_1.mono _ _ _ _ _ _ _)
   | (with_reducible exact LeO.refl _)
   | (with_reducible exact LeO.none _)
   | (with_reducible refine LeO.ite ?_ ?_)
   | (with_reducible refine LeO.bind ?_ (fun _ => ?_))
   | exact ih0 _ _ _ _ _ _ _ _
   | exact fixpoint_validStep_1.mono _ _ _ _ _ _ _
   | exact LeO.none _
   | refine LeO.ite ?_ ?_
   | refine LeO.bind ?_ (fun _ => ?_)
theorem slices_IndexFunc_217_at_179_69_3_182.mono : ∀ a0 a1 a2 a3 a4 a5 k, LeO (slices_IndexFunc_217_at_179_69_3_182.f k a0 a1 a2 a3 a4 a5) (slices_IndexFunc_217_at_179_69_3_182.f (k + 1) a0 a1 a2 a3 a4 a5) := by
 intro a0 a1 a2 a3 a4 a5 k
 have ih0 := slices_IndexFunc_217_at_179_69_3_182.mono_l k
 unfold slices_IndexFunc_217_at_179_69_3_182.f
 repeat' first
   | (with_reducible exact ih0 _ _ _ _ _ _ _ _)
   | (with_reducible exact fixpoint_validStep_1.mono _ _ _ _ _ _ _)
   | (with_reducible exact LeO.refl _)
   | (with_reducible exact LeO.none _)
   | (with_reducible refine LeO.ite ?_ ?_)
   | (with_reducible refine LeO.bind ?_ (fun _ => ?_))
   | exact ih0 _ _ _ _ _ _ _ _
   | exact fixpoint_validStep_1.mono _ _ _ _ _ _ _
   | exact LeO.none _
   | refine LeO.ite ?_ ?_
   | refine LeO.bind ?_ (fun _ => ?_)
set_option maxHeartbeats 8000000 in
set_option maxRecDepth 100000 in
theorem slices_IndexFunc_217_at_179_69_3_182.calls (k : Nat) (A0 : Option Addr) (c0 : Nat) (l0 : List Int) (b1_0 : Nat) (b1_1 : Nat) (b1_2 : Nat) (A1_0_0 : Option Addr) (c1_0_0 : Nat) (l1_0_0 : List (S182)) (a1_1_0 : Int) (a1_2_0 : Int) (a1_2_1 : Int) (a1_2_2 : Int) (r : Int) (w : World) (hr0 : Kd.C (Kd.int .i64) w A0 l0.length l0) (hc0 : l0.length ≤ c0) (hr1_0_0 : Kd.C k182 w A1_0_0 l1_0_0.length l1_0_0) (hc1_0_0 : l1_0_0.length ≤ c1_0_0) (hb1_0 : w.heap[b1_0]? = some (.cells #[.slice A1_0_0 l1_0_0.length c1_0_0] 69 (0, 0))) (hb1_1 : w.heap[b1_1]? = some (.cells #[.int .i64 a1_1_0] 3 (0, 0))) (hb1_2 : w.heap[b1_2]? = some (.cells #[.int .i64 a1_2_0, .int .i64 a1_2_1, .int .i64 a1_2_2] 182 (0, 0))) (h : slices_IndexFunc_217_at_179_69_3_182.f k l0 l1_0_0 a1_1_0 a1_2_0 a1_2_1 a1_2_2 = some r) :
  Calls Try.prog 217 #[.slice A0 l0.length c0, .func (.func 179) #[] #[.pointer (some ⟨b1_0, 0, none⟩), .pointer (some ⟨b1_1, 0, none⟩), .pointer (some ⟨b1_2, 0, none⟩)]] w fun e w' => e = .returned (.int .i64 r) ∧ Below w.heap.size w w' := by
 have HR0 := Aside0.mk hr0
 have HC0 := Aside0.mk hc0
 clear hr0 hc0
 have HR1_0_0 := Aside0.mk hr1_0_0
 have HC1_0_0 := Aside0.mk hc1_0_0
 clear hr1_0_0 hc1_0_0
 have BK46 := Aside0.mk hb1_0
 clear hb1_0
 have BK47 := Aside0.mk hb1_1
 clear hb1_1
 have BK48 := Aside0.mk hb1_2
 clear hb1_2
 have HB := Aside0.mk (Below.refl w.heap.size w)
 have H : (slices_IndexFunc_217_at_179_69_3_182.l0 k l0 (l0.length : Int) 0 l1_0_0 a1_1_0 a1_2_0 a1_2_1 a1_2_2) = some r := h
 clear h
 have H' := Aside0.mk H
 clear H
 go_enter Try.func217, Try.ntmps217
 go_wp2
 go_loopg [8] k (fun kq v8 w' => ∃ (x8_1 : Int), v8 = .int .i64 x8_1 ∧ Aside0 (slices_IndexFunc_217_at_179_69_3_182.l0 kq l0 (l0.length : Int) x8_1 l1_0_0 a1_1_0 a1_2_0 a1_2_1 a1_2_2 = some r) ∧ Aside0 (kq ≤ k) ∧ Aside0 (w'.heap[b1_0]? = some (.cells #[(.slice A1_0_0 l1_0_0.length c1_0_0)] 69 (0, 0))) ∧ Aside0 (w'.heap[b1_1]? = some (.cells #[.int .i64 a1_1_0] 3 (0, 0))) ∧ Aside0 (w'.heap[b1_2]? = some (.cells #[.int .i64 a1_2_0, .int .i64 a1_2_1, .int .i64 a1_2_2] 182 (0, 0))) ∧ Aside0 (Below w.heap.size w w'))
 case atStart => exact ⟨(0), (by first | rfl | (simp; done) | (simp [*]; done) | (simp [isEmpty_bne]; done)), H', ⟨Nat.le_refl _⟩, ⟨by (with_reducible repeat (first | refine blk_drewN ?_ _ | refine blk_drew ?_ | refine blk_alloc ?_ _)); exact BK46.out⟩, ⟨by (with_reducible repeat (first | refine blk_drewN ?_ _ | refine blk_drew ?_ | refine blk_alloc ?_ _)); exact BK47.out⟩, ⟨by (with_reducible repeat (first | refine blk_drewN ?_ _ | refine blk_drew ?_ | refine blk_alloc ?_ _)); exact BK48.out⟩, ⟨by repeat (first | (with_reducible first | exact HB.out | apply below_alloc | apply pw_below_drewN | apply below_drew1 | refine below_set ?_ GE46.out | refine below_set ?_ GE47.out | refine below_set ?_ GE48.out) | exact HB.out)⟩⟩
 case round =>
  clear H'
  try clear c1
  try clear p2
  obtain ⟨x8_1, rfl, HA, HK1, BK46, BK47, BK48, HB⟩ := hrel
  cases gk with
  | zero => exact absurd HA.out (by simp [slices_IndexFunc_217_at_179_69_3_182.l0])
  | succ k1 =>
   have H := HA.out
   clear HA
   simp only [slices_IndexFunc_217_at_179_69_3_182.l0] at H
   by_cases c3 : x8_1 < (l0.length : Int)
   ·rw [if_pos c3] at H
    have c3b0 : decide (x8_1 < (l0.length : Int)) = true := decide_eq_true c3
    clear c3
    by_cases c4 : 0 ≤ x8_1
    ·rw [if_pos c4] at H
     have c4b0 : decide (0 ≤ x8_1) = true := decide_eq_true c4
     clear c4
     by_cases c5 : x8_1 < (l0.length : Int)
     ·rw [if_pos c5] at H
      have c5b0 : decide (x8_1 < (l0.length : Int)) = true := decide_eq_true c5
      clear c5
      replace H := Option.bind_eq_some_iff.mp H
      obtain ⟨t278, A60, H⟩ := H
      replace H : (if t278 = true then (some x8_1) else (slices_IndexFunc_217_at_179_69_3_182.l0 k1 l0 (l0.length : Int) (wrap64 (x8_1 + 1)) l1_0_0 a1_1_0 a1_2_0 a1_2_1 a1_2_2)) = some r := H
      have A6 := Aside0.mk A60
      clear A60
      by_cases c7 : t278 = true
      ·subst c7
       have H1 : (some x8_1) = some r := by rw [if_pos rfl] at H; exact H
       clear H
       have H := H1
       clear H1
       obtain rfl := Option.some.inj H
       have p277 : 0 ≤ (x8_1 : Int) := of_decide_eq_true (by first | (with_reducible assumption) | assumption)
       have q277 : x8_1 < (l0.length : Int) := of_decide_eq_true (by first | (with_reducible assumption) | assumption)
       obtain ⟨ad277, e277, hx277_0⟩ := Kd.at_int HR0.out x8_1 p277 q277
       cases e277
       replace hx277_0 := (HB.out.cell (World.block_lt_of_cell? w _ hx277_0)).trans hx277_0
       replace p277 := eq_true p277
       replace q277 := eq_true q277
       go_wp2_with (first | (go_at_call 179; (with_reducible refine (fixpoint_validStep_1.calls k1 (rd l0 x8_1) _ A1_0_0 c1_0_0 l1_0_0 _ a1_1_0 _ a1_2_0 a1_2_1 a1_2_2 true _ ?side1 ?side2 ?side3 ?side4 ?side5 A6.out).mono ?_); (case side1 => repeat (first | exact (Kd.C_below HR1_0_0.out HB.out) | (with_reducible refine Kd.C_alloc ?_ _) | (with_reducible refine Kd.C_drewN ?_ _) | (with_reducible refine Kd.C_drew ?_))); (case side2 => exact HC1_0_0.out); (case side3 => exact (by (with_reducible repeat (first | refine blk_drewN ?_ _ | refine blk_drew ?_ | refine blk_alloc ?_ _)); exact BK46.out)); (case side4 => exact (by (with_reducible repeat (first | refine blk_drewN ?_ _ | refine blk_drew ?_ | refine blk_alloc ?_ _)); exact BK47.out)); (case side5 => exact (by (with_reducible repeat (first | refine blk_drewN ?_ _ | refine blk_drew ?_ | refine blk_alloc ?_ _)); exact BK48.out)); rintro e w8 ⟨rfl, hb⟩; have n0_ := Aside0.mk (blk_below (g := b1_0) (o := .cells #[.slice A1_0_0 l1_0_0.length c1_0_0] 69 (0, 0)) (by (with_reducible repeat (first | refine blk_drewN ?_ _ | refine blk_drew ?_ | refine blk_alloc ?_ _)); exact BK46.out) hb); have n1_ := Aside0.mk (blk_below (g := b1_1) (o := .cells #[.int .i64 a1_1_0] 3 (0, 0)) (by (with_reducible repeat (first | refine blk_drewN ?_ _ | refine blk_drew ?_ | refine blk_alloc ?_ _)); exact BK47.out) hb); have n2_ := Aside0.mk (blk_below (g := b1_2) (o := .cells #[.int .i64 a1_2_0, .int .i64 a1_2_1, .int .i64 a1_2_2] 182 (0, 0)) (by (with_reducible repeat (first | refine blk_drewN ?_ _ | refine blk_drew ?_ | refine blk_alloc ?_ _)); exact BK48.out) hb); have n3_ := Aside0.mk (below_step (by repeat (first | (with_reducible first | exact HB.out | apply below_alloc | apply pw_below_drewN | apply below_drew1 | refine below_set ?_ GE46.out | refine below_set ?_ GE47.out | refine below_set ?_ GE48.out) | exact HB.out)) hb); clear BK46; clear BK47; clear BK48; clear HB; have BK46 := n0_; have BK47 := n1_; have BK48 := n2_; have HB := n3_; clear n0_ n1_ n2_ n3_; (try clear hb); (try clear hb2); (try clear hk); (try clear hi)))
       go_ret
       exact ⟨by first | rfl | (simp [errW_none, errW_some] <;> rfl) | (simp [*, errW_none, errW_some] <;> rfl), by repeat (first | (with_reducible first | exact HB.out | apply below_alloc | apply pw_below_drewN | apply below_drew1 | refine below_set ?_ GE46.out | refine below_set ?_ GE47.out | refine below_set ?_ GE48.out) | exact HB.out)⟩
      ·replace c7 := Bool.eq_false_iff.mpr c7
       subst c7
       have H1 : (slices_IndexFunc_217_at_179_69_3_182.l0 k1 l0 (l0.length : Int) (wrap64 (x8_1 + 1)) l1_0_0 a1_1_0 a1_2_0 a1_2_1 a1_2_2) = some r := by rw [if_neg (show ¬ (false = true) by decide)] at H; exact H
       clear H
       have H := H1
       clear H1
       have H' := Aside0.mk H
       clear H
       have p277 : 0 ≤ (x8_1 : Int) := of_decide_eq_true (by first | (with_reducible assumption) | assumption)
       have q277 : x8_1 < (l0.length : Int) := of_decide_eq_true (by first | (with_reducible assumption) | assumption)
       obtain ⟨ad277, e277, hx277_0⟩ := Kd.at_int HR0.out x8_1 p277 q277
       cases e277
       replace hx277_0 := (HB.out.cell (World.block_lt_of_cell? w _ hx277_0)).trans hx277_0
       replace p277 := eq_true p277
       replace q277 := eq_true q277
       go_wp2_with (first | (go_at_call 179; (with_reducible refine (fixpoint_validStep_1.calls k1 (rd l0 x8_1) _ A1_0_0 c1_0_0 l1_0_0 _ a1_1_0 _ a1_2_0 a1_2_1 a1_2_2 false _ ?side1 ?side2 ?side3 ?side4 ?side5 A6.out).mono ?_); (case side1 => repeat (first | exact (Kd.C_below HR1_0_0.out HB.out) | (with_reducible refine Kd.C_alloc ?_ _) | (with_reducible refine Kd.C_drewN ?_ _) | (with_reducible refine Kd.C_drew ?_))); (case side2 => exact HC1_0_0.out); (case side3 => exact (by (with_reducible repeat (first | refine blk_drewN ?_ _ | refine blk_drew ?_ | refine blk_alloc ?_ _)); exact BK46.out)); (case side4 => exact (by (with_reducible repeat (first | refine blk_drewN ?_ _ | refine blk_drew ?_ | refine blk_alloc ?_ _)); exact BK47.out)); (case side5 => exact (by (with_reducible repeat (first | refine blk_drewN ?_ _ | refine blk_drew ?_ | refine blk_alloc ?_ _)); exact BK48.out)); rintro e w9 ⟨rfl, hb⟩; have n0_ := Aside0.mk (blk_below (g := b1_0) (o := .cells #[.slice A1_0_0 l1_0_0.length c1_0_0] 69 (0, 0)) (by (with_reducible repeat (first | refine blk_drewN ?_ _ | refine blk_drew ?_ | refine blk_alloc ?_ _)); exact BK46.out) hb); have n1_ := Aside0.mk (blk_below (g := b1_1) (o := .cells #[.int .i64 a1_1_0] 3 (0, 0)) (by (with_reducible repeat (first | refine blk_drewN ?_ _ | refine blk_drew ?_ | refine blk_alloc ?_ _)); exact BK47.out) hb); have n2_ := Aside0.mk (blk_below (g := b1_2) (o := .cells #[.int .i64 a1_2_0, .int .i64 a1_2_1, .int .i64 a1_2_2] 182 (0, 0)) (by (with_reducible repeat (first | refine blk_drewN ?_ _ | refine blk_drew ?_ | refine blk_alloc ?_ _)); exact BK48.out) hb); have n3_ := Aside0.mk (below_step (by repeat (first | (with_reducible first | exact HB.out | apply below_alloc | apply pw_below_drewN | apply below_drew1 | refine below_set ?_ GE46.out | refine below_set ?_ GE47.out | refine below_set ?_ GE48.out) | exact HB.out)) hb); clear BK46; clear BK47; clear BK48; clear HB; have BK46 := n0_; have BK47 := n1_; have BK48 := n2_; have HB := n3_; clear n0_ n1_ n2_ n3_; (try clear hb); (try clear hb2); (try clear hk); (try clear hi)))
       go_roundg k1
       case measure => have := HK1.out; omega
       case rel => exact ⟨(wrap64 (x8_1 + 1)), (by first | rfl | (simp; done) | (simp [*]; done) | (simp [isEmpty_bne]; done)), H', ⟨by have := HK1.out; omega⟩, ⟨by (with_reducible repeat (first | refine blk_drewN ?_ _ | refine blk_drew ?_ | refine blk_alloc ?_ _)); exact BK46.out⟩, ⟨by (with_reducible repeat (first | refine blk_drewN ?_ _ | refine blk_drew ?_ | refine blk_alloc ?_ _)); exact BK47.out⟩, ⟨by (with_reducible repeat (first | refine blk_drewN ?_ _ | refine blk_drew ?_ | refine blk_alloc ?_ _)); exact BK48.out⟩, ⟨by repeat (first | (with_reducible first | exact HB.out | apply below_alloc | apply pw_below_drewN | apply below_drew1 | refine below_set ?_ GE46.out | refine below_set ?_ GE47.out | refine below_set ?_ GE48.out) | exact HB.out)⟩⟩
     ·rw [if_neg c5] at H
      exact absurd H (by simp)
    ·rw [if_neg c4] at H
     exact absurd H (by simp)
   ·rw [if_neg c3] at H
    have c3b0 : decide (x8_1 < (l0.length : Int)) = false := decide_eq_false c3
    clear c3
    obtain rfl := Option.some.inj H
    go_wp2
    go_ret
    exact ⟨by first | rfl | (simp [errW_none, errW_some] <;> rfl) | (simp [*, errW_none, errW_some] <;> rfl), by repeat (first | (with_reducible first | exact HB.out | apply below_alloc | apply pw_below_drewN | apply below_drew1 | refine below_set ?_ GE46.out | refine below_set ?_ GE47.out | refine below_set ?_ GE48.out) | exact HB.out)⟩

/-! ### slices_ContainsFunc_172_at_179_69_3_182: function 300 -/
def slices_ContainsFunc_172_at_179_69_3_182.f (k : Nat) (l0 : List Int) (l1_0_0 : List (S182)) (a1_1_0 : Int) (a1_2_0 : Int) (a1_2_1 : Int) (a1_2_2 : Int) : Option (Bool) := (slices_IndexFunc_217_at_179_69_3_182.f k l0 l1_0_0 a1_1_0 a1_2_0 a1_2_1 a1_2_2).bind fun t279 => (some (decide (t279 ≥ 0)))
theorem slices_ContainsFunc_172_at_179_69_3_182.mono : ∀ a0 a1 a2 a3 a4 a5 k, LeO (slices_ContainsFunc_172_at_179_69_3_182.f k a0 a1 a2 a3 a4 a5) (slices_ContainsFunc_172_at_179_69_3_182.f (k + 1) a0 a1 a2 a3 a4 a5) := by
 intro a0 a1 a2 a3 a4 a5 k
 unfold slices_ContainsFunc_172_at_179_69_3_182.f
 repeat' first
   | (with_reducible exact slices_IndexFunc_217_at_179_69_3_182.mono _ _ _ _ _ _ _)
   | (with_reducible exact LeO.refl _)
   | (with_reducible exact LeO.none _)
   | (with_reducible refine LeO.ite ?_ ?_)
   | (with_reducible refine LeO.bind ?_ (fun _ => ?_))
   | exact slices_IndexFunc_217_at_179_69_3_182.mono _ _ _ _ _ _ _
   | exact LeO.none _
   | refine LeO.ite ?_ ?_
   | refine LeO.bind ?_ (fun _ => ?_)
set_option maxHeartbeats 8000000 in
set_option maxRecDepth 100000 in
theorem slices_ContainsFunc_172_at_179_69_3_182.calls (k : Nat) (A0 : Option Addr) (c0 : Nat) (l0 : List Int) (b1_0 : Nat) (b1_1 : Nat) (b1_2 : Nat) (A1_0_0 : Option Addr) (c1_0_0 : Nat) (l1_0_0 : List (S182)) (a1_1_0 : Int) (a1_2_0 : Int) (a1_2_1 : Int) (a1_2_2 : Int) (r : Bool) (w : World) (hr0 : Kd.C (Kd.int .i64) w A0 l0.length l0) (hc0 : l0.length ≤ c0) (hr1_0_0 : Kd.C k182 w A1_0_0 l1_0_0.length l1_0_0) (hc1_0_0 : l1_0_0.length ≤ c1_0_0) (hb1_0 : w.heap[b1_0]? = some (.cells #[.slice A1_0_0 l1_0_0.length c1_0_0] 69 (0, 0))) (hb1_1 : w.heap[b1_1]? = some (.cells #[.int .i64 a1_1_0] 3 (0, 0))) (hb1_2 : w.heap[b1_2]? = some (.cells #[.int .i64 a1_2_0, .int .i64 a1_2_1, .int .i64 a1_2_2] 182 (0, 0))) (h : slices_ContainsFunc_172_at_179_69_3_182.f k l0 l1_0_0 a1_1_0 a1_2_0 a1_2_1 a1_2_2 = some r) :
  Calls Try.prog 172 #[.slice A0 l0.length c0, .func (.func 179) #[] #[.pointer (some ⟨b1_0, 0, none⟩), .pointer (some ⟨b1_1, 0, none⟩), .pointer (some ⟨b1_2, 0, none⟩)]] w fun e w' => e = .returned (.bool r) ∧ Below w.heap.size w w' := by
 have HR0 := Aside0.mk hr0
 have HC0 := Aside0.mk hc0
 clear hr0 hc0
 have HR1_0_0 := Aside0.mk hr1_0_0
 have HC1_0_0 := Aside0.mk hc1_0_0
 clear hr1_0_0 hc1_0_0
 have BK46 := Aside0.mk hb1_0
 clear hb1_0
 have BK47 := Aside0.mk hb1_1
 clear hb1_1
 have BK48 := Aside0.mk hb1_2
 clear hb1_2
 have HB := Aside0.mk (Below.refl w.heap.size w)
 have H : ((slices_IndexFunc_217_at_179_69_3_182.f k l0 l1_0_0 a1_1_0 a1_2_0 a1_2_1 a1_2_2).bind fun t279 => (some (decide (t279 ≥ 0)))) = some r := h
 clear h
 replace H := Option.bind_eq_some_iff.mp H
 obtain ⟨t279, A30, H⟩ := H
 replace H : (some (decide (t279 ≥ 0))) = some r := H
 have A3 := Aside0.mk A30
 clear A30
 obtain rfl := Option.some.inj H
 go_enter Try.func172, Try.ntmps172
 go_wp2_with (first | (go_at_call 217; (with_reducible refine (slices_IndexFunc_217_at_179_69_3_182.calls k _ _ l0 _ _ _ A1_0_0 c1_0_0 l1_0_0 a1_1_0 a1_2_0 a1_2_1 a1_2_2 t279 _ ?side1 ?side2 ?side3 ?side4 ?side5 ?side6 ?side7 A3.out).mono ?_); (case side1 => repeat (first | exact HR0.out | (with_reducible refine Kd.C_alloc ?_ _) | (with_reducible refine Kd.C_drewN ?_ _) | (with_reducible refine Kd.C_drew ?_))); (case side2 => exact HC0.out); (case side3 => repeat (first | exact HR1_0_0.out | (with_reducible refine Kd.C_alloc ?_ _) | (with_reducible refine Kd.C_drewN ?_ _) | (with_reducible refine Kd.C_drew ?_))); (case side4 => exact HC1_0_0.out); (case side5 => exact (by (with_reducible repeat (first | refine blk_drewN ?_ _ | refine blk_drew ?_ | refine blk_alloc ?_ _)); exact BK46.out)); (case side6 => exact (by (with_reducible repeat (first | refine blk_drewN ?_ _ | refine blk_drew ?_ | refine blk_alloc ?_ _)); exact BK47.out)); (case side7 => exact (by (with_reducible repeat (first | refine blk_drewN ?_ _ | refine blk_drew ?_ | refine blk_alloc ?_ _)); exact BK48.out)); rintro e w4 ⟨rfl, hb⟩; have n0_ := Aside0.mk (blk_below (g := b1_0) (o := .cells #[.slice A1_0_0 l1_0_0.length c1_0_0] 69 (0, 0)) (by (with_reducible repeat (first | refine blk_drewN ?_ _ | refine blk_drew ?_ | refine blk_alloc ?_ _)); exact BK46.out) hb); have n1_ := Aside0.mk (blk_below (g := b1_1) (o := .cells #[.int .i64 a1_1_0] 3 (0, 0)) (by (with_reducible repeat (first | refine blk_drewN ?_ _ | refine blk_drew ?_ | refine blk_alloc ?_ _)); exact BK47.out) hb); have n2_ := Aside0.mk (blk_below (g := b1_2) (o := .cells #[.int .i64 a1_2_0, .int .i64 a1_2_1, .int .i64 a1_2_2] 182 (0, 0)) (by (with_reducible repeat (first | refine blk_drewN ?_ _ | refine blk_drew ?_ | refine blk_alloc ?_ _)); exact BK48.out) hb); have n3_ := Aside0.mk (below_step (by repeat (first | (with_reducible first | exact HB.out | apply below_alloc | apply pw_below_drewN | apply below_drew1 | refine below_set ?_ GE46.out | refine below_set ?_ GE47.out | refine below_set ?_ GE48.out) | exact HB.out)) hb); clear BK46; clear BK47; clear BK48; clear HB; have BK46 := n0_; have BK47 := n1_; have BK48 := n2_; have HB := n3_; clear n0_ n1_ n2_ n3_; (try clear hb); (try clear hb2); (try clear hk); (try clear hi)))
 go_ret
 exact ⟨by first | rfl | (simp [errW_none, errW_some] <;> rfl) | (simp [*, errW_none, errW_some] <;> rfl), by repeat (first | (with_reducible first | exact HB.out | apply below_alloc | apply pw_below_drewN | apply below_drew1 | refine below_set ?_ GE46.out | refine below_set ?_ GE47.out | refine below_set ?_ GE48.out) | exact HB.out)⟩

end Go.Proofs.Ytglckkkjfcomlaa.QFixpointProofs
