-- Written by gen.py (this repo's wip/), which runs the kit's print.py with more arms. Lean checks it.
import Derived.Test.YtglckkkjfcomlaaQFixpointProofsx0
import Derived.Test.YtglckkkjfcomlaaQFixpointProofsx1
namespace Go.Proofs.Ytglckkkjfcomlaa.QFixpointProofs
open Go.RowKit Go.Proofs.YtglckkkjfcomlaaW.PrintWords Go.Proofs.YtglckkkjfcomlaaW.PrintLast Go.Proofs.YtglckkkjfcomlaaW.PrintMore
attribute [local go_sem] max2_int min2_int max_two min_two max_three min_three max_four min_four   -- for this text's walks alone
set_option linter.unusedVariables false
set_option linter.unusedSimpArgs false

private theorem isEmpty_bne {α : Type} [BEq α] (l : List α) : (l != []) = !l.isEmpty := by cases l <;> rfl

/-! ### fixpoint_Check: function 98 -/
mutual
def fixpoint_Check.l0 : Nat → List (List (S58)) → Int → Int → List (List (S58)) → Option (Int)
 | 0, _, _, _, _ => none
 | k + 1, x12, x13, x14, x111000 => if x14 < x13 then (if 0 ≤ x14 then (if x14 < (x12.length : Int) then (if ((rd_L3 x12 x14).length : Int) > 20 then (some 2) else ((slices_ContainsFunc_170_at_171.f k (rd_L3 x12 x14)).bind fun t112 => (if t112 = true then (some 2) else (fixpoint_Check.l0 k x12 x13 (wrap64 (x14 + 1)) x111000)))) else (none)) else (none)) else (fixpoint_Check.l1 k x111000 (x111000.length : Int) 0 x111000)
def fixpoint_Check.l1 : Nat → List (List (S58)) → Int → Int → List (List (S58)) → Option (Int)
 | 0, _, _, _, _ => none
 | k + 1, x26, x27, x28, x111000 => if x28 < x27 then (if 0 ≤ x28 then (if x28 < (x26.length : Int) then (fixpoint_Check.l2 k x26 x27 x28 (rd_L3 x26 x28) ((rd_L3 x26 x28).length : Int) 0 x111000) else (none)) else (none)) else (some 0)
def fixpoint_Check.l2 : Nat → List (List (S58)) → Int → Int → List (S58) → Int → Int → List (List (S58)) → Option (Int)
 | 0, _, _, _, _, _, _, _ => none
 | k + 1, x26, x27, x28, x32, x33, x34, x111000 => if x34 < x33 then (if 0 ≤ x34 then (if x34 < (x32.length : Int) then (if ((rd_T58 x32 x34).f0) < 0 then (fixpoint_Check.j3 k x26 x27 x28 x32 x33 x34 true x111000 ((rd_T58 x32 x34).f0) ((rd_T58 x32 x34).f1)) else (fixpoint_Check.j3 k x26 x27 x28 x32 x33 x34 (decide (((rd_T58 x32 x34).f0) > 1048575)) x111000 ((rd_T58 x32 x34).f0) ((rd_T58 x32 x34).f1))) else (none)) else (none)) else (fixpoint_Check.l1 k x26 x27 (wrap64 (x28 + 1)) x111000)
def fixpoint_Check.j3 : Nat → List (List (S58)) → Int → Int → List (S58) → Int → Int → Bool → List (List (S58)) → Int → List Int → Option (Int)
 | 0, _, _, _, _, _, _, _, _, _, _ => none
 | k + 1, x26, x27, x28, x32, x33, x34, x45, x111000, x116000, x116001 => if x45 = true then (some 1) else ((slices_ContainsFunc_172_at_173_47.f k x116001 x111000).bind fun t116 => (if t116 = true then (some 3) else (fixpoint_Check.l2 k x26 x27 x28 x32 x33 (wrap64 (x34 + 1)) x111000)))
end
def fixpoint_Check.f (k : Nat) (l0 : List (List (S58))) : Option (Int) := if (l0.length : Int) > 60 then (some 2) else (fixpoint_Check.l0 k l0 (l0.length : Int) 0 l0)
theorem fixpoint_Check.mono_l : ∀ k, (∀ y0 y1 y2 y3, LeO (fixpoint_Check.l0 k y0 y1 y2 y3) (fixpoint_Check.l0 (k + 1) y0 y1 y2 y3)) ∧ (∀ y0 y1 y2 y3, LeO (fixpoint_Check.l1 k y0 y1 y2 y3) (fixpoint_Check.l1 (k + 1) y0 y1 y2 y3)) ∧ (∀ y0 y1 y2 y3 y4 y5 y6, LeO (fixpoint_Check.l2 k y0 y1 y2 y3 y4 y5 y6) (fixpoint_Check.l2 (k + 1) y0 y1 y2 y3 y4 y5 y6)) ∧ (∀ y0 y1 y2 y3 y4 y5 y6 y7 y8 y9, LeO (fixpoint_Check.j3 k y0 y1 y2 y3 y4 y5 y6 y7 y8 y9) (fixpoint_Check.j3 (k + 1) y0 y1 y2 y3 y4 y5 y6 y7 y8 y9))
 | 0 => ⟨fun _ _ _ _ r h => by simp [fixpoint_Check.l0] at h, fun _ _ _ _ r h => by simp [fixpoint_Check.l1] at h, fun _ _ _ _ _ _ _ r h => by simp [fixpoint_Check.l2] at h, fun _ _ _ _ _ _ _ _ _ _ r h => by simp [fixpoint_Check.j3] at h⟩
 | k + 1 => by
  obtain ⟨ih0, ih1, ih2, ih3⟩ := fixpoint_Check.mono_l k
  refine ⟨?_, ?_, ?_, ?_⟩
  ·intro y0 y1 y2 y3
   unfold fixpoint_Check.l0
   repeat' first
   | (with_reducible exact ih0 _ _ _ _)
   | (with_reducible exact ih1 _ _ _ _)
   | (with_reducible exact ih2 _ _ _ _ _ _ _)
   | (with_reducible exact ih3 _ _ _ _ _ _ _ _ _ _)
   | (with_reducible exact slices_ContainsFunc_170_at_171.mono _ _)
   | (with_reducible exact slices_ContainsFunc_172_at_173_47.mono _ _ _)
   | (with_reducible exact LeO.refl _)
   | (with_reducible exact LeO.none _)
   | (with_reducible refine LeO.ite ?_ ?_)
   | (with_reducible refine LeO.bind ?_ (fun _ => ?_))
   | exact ih0 _ _ _ _
   | exact ih1 _ _ _ _
   | exact ih2 _ _ _ _ _ _ _
   | exact ih3 _ _ _ _ _ _ _ _ _ _
   | exact slices_ContainsFunc_170_at_171.mono _ _
   | exact slices_ContainsFunc_172_at_173_47.mono _ _ _
   | exact LeO.none _
   | refine LeO.ite ?_ ?_
   | refine LeO.bind ?_ (fun _ => ?_)
  ·intro y0 y1 y2 y3
   unfold fixpoint_Check.l1
   repeat' first
   | (with_reducible exact ih0 _ _ _ _)
   | (with_reducible exact ih1 _ _ _ _)
   | (with_reducible exact ih2 _ _ _ _ _ _ _)
   | (with_reducible exact ih3 _ _ _ _ _ _ _ _ _ _)
   | (with_reducible exact slices_ContainsFunc_170_at_171.mono _ _)
   | (with_reducible exact slices_ContainsFunc_172_at_173_47.mono _ _ _)
   | (with_reducible exact LeO.refl _)
   | (with_reducible exact LeO.none _)
   | (with_reducible refine LeO.ite ?_ ?_)
   | (with_reducible refine LeO.bind ?_ (fun _ => ?_))
   | exact ih0 _ _ _ _
   | exact ih1 _ _ _ _
   | exact ih2 _ _ _ _ _ _ _
   | exact ih3 _ _ _ _ _ _ _ _ _ _
   | exact slices_ContainsFunc_170_at_171.mono _ _
   | exact slices_ContainsFunc_172_at_173_47.mono _ _ _
   | exact LeO.none _
   | refine LeO.ite ?_ ?_
   | refine LeO.bind ?_ (fun _ => ?_)
  ·intro y0 y1 y2 y3 y4 y5 y6
   unfold fixpoint_Check.l2
   repeat' first
   | (with_reducible exact ih0 _ _ _ _)
   | (with_reducible exact ih1 _ _ _ _)
   | (with_reducible exact ih2 _ _ _ _ _ _ _)
   | (with_reducible exact ih3 _ _ _ _ _ _ _ _ _ _)
   | (with_reducible exact slices_ContainsFunc_170_at_171.mono _ _)
   | (with_reducible exact slices_ContainsFunc_172_at_173_47.mono _ _ _)
   | (with_reducible exact LeO.refl _)
   | (with_reducible exact LeO.none _)
   | (with_reducible refine LeO.ite ?_ ?_)
   | (with_reducible refine LeO.bind ?_ (fun _ => ?_))
   | exact ih0 _ _ _ _
   | exact ih1 _ _ _ _
   | exact ih2 _ _ _ _ _ _ _
   | exact ih3 _ _ _ _ _ _ _ _ _ _
   | exact slices_ContainsFunc_170_at_171.mono _ _
   | exact slices_ContainsFunc_172_at_173_47.mono _ _ _
   | exact LeO.none _
   | refine LeO.ite ?_ ?_
   | refine LeO.bind ?_ (fun _ => ?_)
  ·intro y0 y1 y2 y3 y4 y5 y6 y7 y8 y9
   unfold fixpoint_Check.j3
   repeat' first
   | (with_reducible exact ih0 _ _ _ _)
   | (with_reducible exact ih1 _ _ _ _)
   | (with_reducible exact ih2 _ _ _ _ _ _ _)
   | (with_reducible exact ih3 _ _ _ _ _ _ _ _ _ _)
   | (with_reducible exact slices_ContainsFunc_170_at_171.mono _ _)
   | (with_reducible exact slices_ContainsFunc_172_at_173_47.mono _ _ _)
   | (with_reducible exact LeO.refl _)
   | (with_reducible exact LeO.none _)
   | (with_reducible refine LeO.ite ?_ ?_)
   | (with_reducible refine LeO.bind ?_ (fun _ => ?_))
   | exact ih0 _ _ _ _
   | exact ih1 _ _ _ _
   | exact ih2 _ _ _ _ _ _ _
   | exact ih3 _ _ _ _ _ _ _ _ _ _
   | exact slices_ContainsFunc_170_at_171.mono _ _
   | exact slices_ContainsFunc_172_at_173_47.mono _ _ _
   | exact LeO.none _
   | refine LeO.ite ?_ ?_
   | refine LeO.bind ?_ (fun _ => ?_)
theorem fixpoint_Check.mono : ∀ a0 k, LeO (fixpoint_Check.f k a0) (fixpoint_Check.f (k + 1) a0) := by
 intro a0 k
 obtain ⟨ih0, ih1, ih2, ih3⟩ := fixpoint_Check.mono_l k
 unfold fixpoint_Check.f
 repeat' first
   | (with_reducible exact ih0 _ _ _ _)
   | (with_reducible exact ih1 _ _ _ _)
   | (with_reducible exact ih2 _ _ _ _ _ _ _)
   | (with_reducible exact ih3 _ _ _ _ _ _ _ _ _ _)
   | (with_reducible exact slices_ContainsFunc_170_at_171.mono _ _)
   | (with_reducible exact slices_ContainsFunc_172_at_173_47.mono _ _ _)
   | (with_reducible exact LeO.refl _)
   | (with_reducible exact LeO.none _)
   | (with_reducible refine LeO.ite ?_ ?_)
   | (with_reducible refine LeO.bind ?_ (fun _ => ?_))
   | exact ih0 _ _ _ _
   | exact ih1 _ _ _ _
   | exact ih2 _ _ _ _ _ _ _
   | exact ih3 _ _ _ _ _ _ _ _ _ _
   | exact slices_ContainsFunc_170_at_171.mono _ _
   | exact slices_ContainsFunc_172_at_173_47.mono _ _ _
   | exact LeO.none _
   | refine LeO.ite ?_ ?_
   | refine LeO.bind ?_ (fun _ => ?_)
set_option maxHeartbeats 8000000 in
set_option maxRecDepth 100000 in
theorem fixpoint_Check.calls (k : Nat) (A0 : Option Addr) (c0 : Nat) (l0 : List (List (S58))) (r : Int) (w : World) (hr0 : Kd.C (Kd.slice 58 k58) w A0 l0.length l0) (hc0 : l0.length ≤ c0) (h : fixpoint_Check.f k l0 = some r) :
  Calls Try.prog 98 #[.slice A0 l0.length c0] w fun e w' => e = .returned (.int .i64 r) ∧ Below w.heap.size w w' := by
 have hu58 := Try.underlying58
 have HR0 := Aside0.mk hr0
 have HC0 := Aside0.mk hc0
 clear hr0 hc0
 have HB := Aside0.mk (Below.refl w.heap.size w)
 have H : (if (l0.length : Int) > 60 then (some 2) else (fixpoint_Check.l0 k l0 (l0.length : Int) 0 l0)) = some r := h
 clear h
 by_cases c2 : (l0.length : Int) > 60
 ·rw [if_pos c2] at H
  have c2b0 : decide (60 < (l0.length : Int)) = true := decide_eq_true c2
  have c2b1 : decide (60 < l0.length) = true := decide_eq_true (by omega)
  clear c2
  obtain rfl := Option.some.inj H
  go_enter Try.func98, Try.ntmps98
  go_wp2_with (first | ((with_reducible refine gate_dst (N := 1) rfl ?_); refine box_event ?hg (N := 1) ?hd (cs := #[.slice A0 l0.length c0]) (t := 47) ?hr ?_; (case hd => rfl); (case hg => rfl); (case hr => first | (go_simp; done) | (go_simp; rfl)); intro gb110 hg w3 hbox hb; have n0_ := Aside0.mk (below_step (by repeat (first | (with_reducible first | exact HB.out | apply below_alloc | apply pw_below_drewN | apply below_drew1) | exact HB.out)) hb); have n1_ := Aside0.mk (hbox); have n2_ := Aside0.mk ((by rw [hg]; exact (below_size (by repeat (first | (with_reducible first | exact HB.out | apply below_alloc | apply pw_below_drewN | apply below_drew1) | exact HB.out))) : w.heap.size ≤ gb110)); have n3_ := Aside0.mk ((by rw [hg]; exact (below_size (by repeat (first | (with_reducible first | exact HB.out | apply below_alloc | apply pw_below_drewN | apply below_drew1) | exact HB.out))) : w.heap.size ≤ gb110)); clear HB; have HB := n0_; have BK110 := n1_; have GW110 := n2_; have GE110 := n3_; clear n0_ n1_ n2_ n3_; clear hb hbox hg; have hcz4_0 : w3.cell? ⟨gb110, 0, none⟩ = some (.slice A0 l0.length c0) := (blk_cell BK110.out 0).trans rfl; have hfz4_0 := blk_frozen BK110.out 0))
  go_ret
  exact ⟨by first | rfl | (simp [errW_none, errW_some] <;> rfl) | (simp [*, errW_none, errW_some] <;> rfl), by repeat (first | (with_reducible first | exact HB.out | apply below_alloc | apply pw_below_drewN | apply below_drew1 | refine below_set ?_ GE110.out) | exact HB.out)⟩
 ·rw [if_neg c2] at H
  have c2b0 : decide (60 < (l0.length : Int)) = false := decide_eq_false c2
  have c2b1 : decide (60 < l0.length) = false := decide_eq_false (by omega)
  clear c2
  have H' := Aside0.mk H
  clear H
  go_enter Try.func98, Try.ntmps98
  go_wp2_with (first | ((with_reducible refine gate_dst (N := 1) rfl ?_); refine box_event ?hg (N := 1) ?hd (cs := #[.slice A0 l0.length c0]) (t := 47) ?hr ?_; (case hd => rfl); (case hg => rfl); (case hr => first | (go_simp; done) | (go_simp; rfl)); intro gb110 hg w5 hbox hb; have n0_ := Aside0.mk (below_step (by repeat (first | (with_reducible first | exact HB.out | apply below_alloc | apply pw_below_drewN | apply below_drew1) | exact HB.out)) hb); have n1_ := Aside0.mk (hbox); have n2_ := Aside0.mk ((by rw [hg]; exact (below_size (by repeat (first | (with_reducible first | exact HB.out | apply below_alloc | apply pw_below_drewN | apply below_drew1) | exact HB.out))) : w.heap.size ≤ gb110)); have n3_ := Aside0.mk ((by rw [hg]; exact (below_size (by repeat (first | (with_reducible first | exact HB.out | apply below_alloc | apply pw_below_drewN | apply below_drew1) | exact HB.out))) : w.heap.size ≤ gb110)); clear HB; have HB := n0_; have BK110 := n1_; have GW110 := n2_; have GE110 := n3_; clear n0_ n1_ n2_ n3_; clear hb hbox hg; have hcz6_0 : w5.cell? ⟨gb110, 0, none⟩ = some (.slice A0 l0.length c0) := (blk_cell BK110.out 0).trans rfl; have hfz6_0 := blk_frozen BK110.out 0))
  go_loopg [14] k (fun kq v14 w' => ∃ (x14_1 : Int), v14 = .int .i64 x14_1 ∧ Aside0 (fixpoint_Check.l0 kq l0 (l0.length : Int) x14_1 l0 = some r) ∧ Aside0 (kq ≤ k) ∧ Aside0 (w'.heap[gb110]? = some (.cells #[(.slice A0 l0.length c0)] 47 (0, 0))) ∧ Aside0 (Below w.heap.size w w'))
  case atStart => exact ⟨(0), (by first | rfl | (simp; done) | (simp [*]; done) | (simp [isEmpty_bne]; done)), H', ⟨Nat.le_refl _⟩, ⟨by (with_reducible repeat (first | refine blk_drewN ?_ _ | refine blk_drew ?_ | refine blk_alloc ?_ _)); exact BK110.out⟩, ⟨by repeat (first | (with_reducible first | exact HB.out | apply below_alloc | apply pw_below_drewN | apply below_drew1 | refine below_set ?_ GE110.out) | exact HB.out)⟩⟩
  case round =>
   clear H'
   try clear c2
   try clear c2b0
   try clear c2b1
   try clear p2
   try clear hcz4_0
   try clear hcz6_0
   try clear hfz4_0
   try clear hfz6_0
   obtain ⟨x14_1, rfl, HA, HK1, BK110, HB⟩ := hrel
   cases gk with
   | zero => exact absurd HA.out (by simp [fixpoint_Check.l0])
   | succ k1 =>
    have H := HA.out
    clear HA
    simp only [fixpoint_Check.l0] at H
    by_cases c7 : x14_1 < (l0.length : Int)
    ·rw [if_pos c7] at H
     have c7b0 : decide (x14_1 < (l0.length : Int)) = true := decide_eq_true c7
     clear c7
     by_cases c8 : 0 ≤ x14_1
     ·rw [if_pos c8] at H
      have c8b0 : decide (0 ≤ x14_1) = true := decide_eq_true c8
      clear c8
      by_cases c9 : x14_1 < (l0.length : Int)
      ·rw [if_pos c9] at H
       have c9b0 : decide (x14_1 < (l0.length : Int)) = true := decide_eq_true c9
       clear c9
       by_cases c10 : ((rd_L3 l0 x14_1).length : Int) > 20
       ·rw [if_pos c10] at H
        have c10b0 : decide (20 < ((rd_L3 l0 x14_1).length : Int)) = true := decide_eq_true c10
        have c10b1 : decide (20 < (rd_L3 l0 x14_1).length) = true := decide_eq_true (by omega)
        clear c10
        obtain rfl := Option.some.inj H
        have p111 : 0 ≤ (x14_1 : Int) := of_decide_eq_true (by first | (with_reducible assumption) | assumption)
        have q111 : x14_1 < (l0.length : Int) := of_decide_eq_true (by first | (with_reducible assumption) | assumption)
        obtain ⟨ad111, A111_0, c111_0, e111, hx111_0, hl111_0, hi111_0⟩ := at_L3 HR0.out x14_1 p111 q111
        cases e111
        replace hx111_0 := (HB.out.cell (World.block_lt_of_cell? w _ hx111_0)).trans hx111_0
        have HR111_0 := Aside0.mk hi111_0
        have HC111_0 := Aside0.mk hl111_0
        clear hi111_0 hl111_0
        replace p111 := eq_true p111
        replace q111 := eq_true q111
        go_wp2
        go_ret
        exact ⟨by first | rfl | (simp [errW_none, errW_some] <;> rfl) | (simp [*, errW_none, errW_some] <;> rfl), by repeat (first | (with_reducible first | exact HB.out | apply below_alloc | apply pw_below_drewN | apply below_drew1 | refine below_set ?_ GE110.out) | exact HB.out)⟩
       ·rw [if_neg c10] at H
        have c10b0 : decide (20 < ((rd_L3 l0 x14_1).length : Int)) = false := decide_eq_false c10
        have c10b1 : decide (20 < (rd_L3 l0 x14_1).length) = false := decide_eq_false (by omega)
        clear c10
        replace H := Option.bind_eq_some_iff.mp H
        obtain ⟨t112, A110, H⟩ := H
        replace H : (if t112 = true then (some 2) else (fixpoint_Check.l0 k1 l0 (l0.length : Int) (wrap64 (x14_1 + 1)) l0)) = some r := H
        have A11 := Aside0.mk A110
        clear A110
        by_cases c12 : t112 = true
        ·subst c12
         have H1 : (some 2) = some r := by rw [if_pos rfl] at H; exact H
         clear H
         have H := H1
         clear H1
         obtain rfl := Option.some.inj H
         have p111 : 0 ≤ (x14_1 : Int) := of_decide_eq_true (by first | (with_reducible assumption) | assumption)
         have q111 : x14_1 < (l0.length : Int) := of_decide_eq_true (by first | (with_reducible assumption) | assumption)
         obtain ⟨ad111, A111_0, c111_0, e111, hx111_0, hl111_0, hi111_0⟩ := at_L3 HR0.out x14_1 p111 q111
         cases e111
         replace hx111_0 := (HB.out.cell (World.block_lt_of_cell? w _ hx111_0)).trans hx111_0
         have HR111_0 := Aside0.mk hi111_0
         have HC111_0 := Aside0.mk hl111_0
         clear hi111_0 hl111_0
         replace p111 := eq_true p111
         replace q111 := eq_true q111
         go_wp2_with (first | (go_at_call 170; (with_reducible refine (slices_ContainsFunc_170_at_171.calls k1 _ _ (rd_L3 l0 x14_1)  true _ ?side1 ?side2 A11.out).mono ?_); (case side1 => repeat (first | exact (Kd.C_below HR111_0.out HB.out) | (with_reducible refine Kd.C_alloc ?_ _) | (with_reducible refine Kd.C_drewN ?_ _) | (with_reducible refine Kd.C_drew ?_))); (case side2 => exact HC111_0.out); rintro e w13 ⟨rfl, hb⟩; have n0_ := Aside0.mk (blk_below (g := gb110) (o := .cells #[.slice (some ad111) l0.length c0] 47 (0, 0)) (by (with_reducible repeat (first | refine blk_drewN ?_ _ | refine blk_drew ?_ | refine blk_alloc ?_ _)); exact BK110.out) hb); have n1_ := Aside0.mk (below_step (by repeat (first | (with_reducible first | exact HB.out | apply below_alloc | apply pw_below_drewN | apply below_drew1 | refine below_set ?_ GE110.out) | exact HB.out)) hb); clear BK110; clear HB; have BK110 := n0_; have HB := n1_; clear n0_ n1_; (try clear hb); (try clear hb2); (try clear hk); (try clear hi)))
         go_ret
         exact ⟨by first | rfl | (simp [errW_none, errW_some] <;> rfl) | (simp [*, errW_none, errW_some] <;> rfl), by repeat (first | (with_reducible first | exact HB.out | apply below_alloc | apply pw_below_drewN | apply below_drew1 | refine below_set ?_ GE110.out) | exact HB.out)⟩
        ·replace c12 := Bool.eq_false_iff.mpr c12
         subst c12
         have H1 : (fixpoint_Check.l0 k1 l0 (l0.length : Int) (wrap64 (x14_1 + 1)) l0) = some r := by rw [if_neg (show ¬ (false = true) by decide)] at H; exact H
         clear H
         have H := H1
         clear H1
         have H' := Aside0.mk H
         clear H
         have p111 : 0 ≤ (x14_1 : Int) := of_decide_eq_true (by first | (with_reducible assumption) | assumption)
         have q111 : x14_1 < (l0.length : Int) := of_decide_eq_true (by first | (with_reducible assumption) | assumption)
         obtain ⟨ad111, A111_0, c111_0, e111, hx111_0, hl111_0, hi111_0⟩ := at_L3 HR0.out x14_1 p111 q111
         cases e111
         replace hx111_0 := (HB.out.cell (World.block_lt_of_cell? w _ hx111_0)).trans hx111_0
         have HR111_0 := Aside0.mk hi111_0
         have HC111_0 := Aside0.mk hl111_0
         clear hi111_0 hl111_0
         replace p111 := eq_true p111
         replace q111 := eq_true q111
         go_wp2_with (first | (go_at_call 170; (with_reducible refine (slices_ContainsFunc_170_at_171.calls k1 _ _ (rd_L3 l0 x14_1)  false _ ?side1 ?side2 A11.out).mono ?_); (case side1 => repeat (first | exact (Kd.C_below HR111_0.out HB.out) | (with_reducible refine Kd.C_alloc ?_ _) | (with_reducible refine Kd.C_drewN ?_ _) | (with_reducible refine Kd.C_drew ?_))); (case side2 => exact HC111_0.out); rintro e w14 ⟨rfl, hb⟩; have n0_ := Aside0.mk (blk_below (g := gb110) (o := .cells #[.slice (some ad111) l0.length c0] 47 (0, 0)) (by (with_reducible repeat (first | refine blk_drewN ?_ _ | refine blk_drew ?_ | refine blk_alloc ?_ _)); exact BK110.out) hb); have n1_ := Aside0.mk (below_step (by repeat (first | (with_reducible first | exact HB.out | apply below_alloc | apply pw_below_drewN | apply below_drew1 | refine below_set ?_ GE110.out) | exact HB.out)) hb); clear BK110; clear HB; have BK110 := n0_; have HB := n1_; clear n0_ n1_; (try clear hb); (try clear hb2); (try clear hk); (try clear hi)))
         go_roundg k1
         case measure => have := HK1.out; omega
         case rel => exact ⟨(wrap64 (x14_1 + 1)), (by first | rfl | (simp; done) | (simp [*]; done) | (simp [isEmpty_bne]; done)), H', ⟨by have := HK1.out; omega⟩, ⟨by (with_reducible repeat (first | refine blk_drewN ?_ _ | refine blk_drew ?_ | refine blk_alloc ?_ _)); exact BK110.out⟩, ⟨by repeat (first | (with_reducible first | exact HB.out | apply below_alloc | apply pw_below_drewN | apply below_drew1 | refine below_set ?_ GE110.out) | exact HB.out)⟩⟩
      ·rw [if_neg c9] at H
       exact absurd H (by simp)
     ·rw [if_neg c8] at H
      exact absurd H (by simp)
    ·rw [if_neg c7] at H
     have c7b0 : decide (x14_1 < (l0.length : Int)) = false := decide_eq_false c7
     clear c7
     have H' := Aside0.mk H
     clear H
     have hcz15_0 : wr.cell? ⟨gb110, 0, none⟩ = some (.slice A0 l0.length c0) := (blk_cell BK110.out 0).trans rfl
     have hfz15_0 := blk_frozen BK110.out 0
     go_wp2
     go_loopg [28] k1 (fun kq v28 w' => ∃ (x28_2 : Int), v28 = .int .i64 x28_2 ∧ Aside0 (fixpoint_Check.l1 kq l0 (l0.length : Int) x28_2 l0 = some r) ∧ Aside0 (kq ≤ k1) ∧ Aside0 (w'.heap[gb110]? = some (.cells #[(.slice A0 l0.length c0)] 47 (0, 0))) ∧ Aside0 (Below w.heap.size w w'))
     case atStart => exact ⟨(0), (by first | rfl | (simp; done) | (simp [*]; done) | (simp [isEmpty_bne]; done)), H', ⟨Nat.le_refl _⟩, ⟨by (with_reducible repeat (first | refine blk_drewN ?_ _ | refine blk_drew ?_ | refine blk_alloc ?_ _)); exact BK110.out⟩, ⟨by repeat (first | (with_reducible first | exact HB.out | apply below_alloc | apply pw_below_drewN | apply below_drew1 | refine below_set ?_ GE110.out) | exact HB.out)⟩⟩
     case round =>
      clear H'
      try clear c1
      try clear p1
      try clear q1
      try clear hx1
      try clear c2
      try clear c2b0
      try clear c2b1
      try clear p2
      try clear p6
      try clear c7
      try clear c7b0
      try clear c8
      try clear c8b0
      try clear c9
      try clear c9b0
      try clear c10
      try clear c10b0
      try clear c10b1
      try clear c11
      try clear p11
      try clear q11
      try clear hx11
      try clear c12
      try clear hcz15_0
      try clear hcz4_0
      try clear hcz6_0
      try clear hfz15_0
      try clear hfz4_0
      try clear hfz6_0
      try clear hx111_0
      try clear p111
      try clear p2
      try clear q111
      obtain ⟨x28_2, rfl, HA, HK2, BK110, HB⟩ := hrel
      cases gk with
      | zero => exact absurd HA.out (by simp [fixpoint_Check.l1])
      | succ k2 =>
       have H := HA.out
       clear HA
       simp only [fixpoint_Check.l1] at H
       by_cases c16 : x28_2 < (l0.length : Int)
       ·rw [if_pos c16] at H
        have c16b0 : decide (x28_2 < (l0.length : Int)) = true := decide_eq_true c16
        clear c16
        by_cases c17 : 0 ≤ x28_2
        ·rw [if_pos c17] at H
         have c17b0 : decide (0 ≤ x28_2) = true := decide_eq_true c17
         clear c17
         by_cases c18 : x28_2 < (l0.length : Int)
         ·rw [if_pos c18] at H
          have c18b0 : decide (x28_2 < (l0.length : Int)) = true := decide_eq_true c18
          clear c18
          have H' := Aside0.mk H
          clear H
          have p113 : 0 ≤ (x28_2 : Int) := of_decide_eq_true (by first | (with_reducible assumption) | assumption)
          have q113 : x28_2 < (l0.length : Int) := of_decide_eq_true (by first | (with_reducible assumption) | assumption)
          obtain ⟨ad113, A113_0, c113_0, e113, hx113_0, hl113_0, hi113_0⟩ := at_L3 HR0.out x28_2 p113 q113
          cases e113
          replace hx113_0 := (HB.out.cell (World.block_lt_of_cell? w _ hx113_0)).trans hx113_0
          have HR113_0 := Aside0.mk hi113_0
          have HC113_0 := Aside0.mk hl113_0
          clear hi113_0 hl113_0
          replace p113 := eq_true p113
          replace q113 := eq_true q113
          go_wp2
          go_loopg [34] k2 (fun kq v34 w' => ∃ (x34_3 : Int), v34 = .int .i64 x34_3 ∧ Aside0 (fixpoint_Check.l2 kq l0 (l0.length : Int) x28_2 (rd_L3 l0 x28_2) ((rd_L3 l0 x28_2).length : Int) x34_3 l0 = some r) ∧ Aside0 (kq ≤ k2) ∧ Aside0 (w'.heap[gb110]? = some (.cells #[(.slice (some ad113) l0.length c0)] 47 (0, 0))) ∧ Aside0 (Below w.heap.size w w'))
          case atStart => exact ⟨(0), (by first | rfl | (simp; done) | (simp [*]; done) | (simp [isEmpty_bne]; done)), H', ⟨Nat.le_refl _⟩, ⟨by (with_reducible repeat (first | refine blk_drewN ?_ _ | refine blk_drew ?_ | refine blk_alloc ?_ _)); exact BK110.out⟩, ⟨by repeat (first | (with_reducible first | exact HB.out | apply below_alloc | apply pw_below_drewN | apply below_drew1 | refine below_set ?_ GE110.out) | exact HB.out)⟩⟩
          case round =>
           clear H'
           try clear c1
           try clear p1
           try clear q1
           try clear hx1
           try clear c2
           try clear c2b0
           try clear c2b1
           try clear p2
           try clear p6
           try clear c7
           try clear c7b0
           try clear c8
           try clear c8b0
           try clear c9
           try clear c9b0
           try clear c10
           try clear c10b0
           try clear c10b1
           try clear c11
           try clear p11
           try clear q11
           try clear hx11
           try clear c12
           try clear c16
           try clear c16b0
           try clear c17
           try clear c17b0
           try clear c18
           try clear c18b0
           try clear hcz15_0
           try clear hcz4_0
           try clear hcz6_0
           try clear hfz15_0
           try clear hfz4_0
           try clear hfz6_0
           try clear hx111_0
           try clear hx113_0
           try clear p1
           try clear p11
           try clear p111
           try clear p113
           try clear p2
           try clear p6
           try clear q1
           try clear q11
           try clear q111
           try clear q113
           obtain ⟨x34_3, rfl, HA, HK3, BK110, HB⟩ := hrel
           cases gk with
           | zero => exact absurd HA.out (by simp [fixpoint_Check.l2])
           | succ k3 =>
            have H := HA.out
            clear HA
            simp only [fixpoint_Check.l2] at H
            by_cases c19 : x34_3 < ((rd_L3 l0 x28_2).length : Int)
            ·rw [if_pos c19] at H
             have c19b0 : decide (x34_3 < ((rd_L3 l0 x28_2).length : Int)) = true := decide_eq_true c19
             clear c19
             by_cases c20 : 0 ≤ x34_3
             ·rw [if_pos c20] at H
              have c20b0 : decide (0 ≤ x34_3) = true := decide_eq_true c20
              clear c20
              by_cases c21 : x34_3 < ((rd_L3 l0 x28_2).length : Int)
              ·rw [if_pos c21] at H
               have c21b0 : decide (x34_3 < ((rd_L3 l0 x28_2).length : Int)) = true := decide_eq_true c21
               clear c21
               have HC22 := Aside0.mk H
               clear H
               have p114 : 0 ≤ (x34_3 : Int) := of_decide_eq_true (by first | (with_reducible assumption) | assumption)
               have q114 : x34_3 < ((rd_L3 l0 x28_2).length : Int) := of_decide_eq_true (by first | (with_reducible assumption) | assumption)
               obtain ⟨ad114, A114_1, c114_1, e114, hx114_0, hx114_1, hl114_1, hi114_1⟩ := at_T58 HR113_0.out x34_3 p114 q114
               cases e114
               replace hx114_0 := (HB.out.cell (World.block_lt_of_cell? w _ hx114_0)).trans hx114_0
               replace hx114_1 := (HB.out.cell (World.block_lt_of_cell? w _ hx114_1)).trans hx114_1
               have HR114_1 := Aside0.mk hi114_1
               have HC114_1 := Aside0.mk hl114_1
               clear hi114_1 hl114_1
               replace p114 := eq_true p114
               replace q114 := eq_true q114
               go_upto_region 15 with (first | ((with_reducible refine gate_dst (N := 8) rfl ?_); refine box_event ?hg (N := 8) ?hd (cs := #[.int .i64 0, .slice none 0 0]) (t := 58) ?hr ?_; (case hd => rfl); (case hg => rfl); (case hr => first | (go_simp; done) | (go_simp; rfl)); intro gb115 hg w23 hbox hb; have n0_ := Aside0.mk (blk_below (g := gb110) (o := .cells #[.slice (some ad113) l0.length c0] 47 (0, 0)) (by (with_reducible repeat (first | refine blk_drewN ?_ _ | refine blk_drew ?_ | refine blk_alloc ?_ _)); exact BK110.out) hb); have n1_ := Aside0.mk (below_step (by repeat (first | (with_reducible first | exact HB.out | apply below_alloc | apply pw_below_drewN | apply below_drew1 | refine below_set ?_ GE110.out) | exact HB.out)) hb); have n2_ := Aside0.mk (hbox); have n3_ := Aside0.mk ((by rw [hg]; exact (below_size (by repeat (first | (with_reducible first | exact HB.out | apply below_alloc | apply pw_below_drewN | apply below_drew1 | refine below_set ?_ GE110.out) | exact HB.out))) : w.heap.size ≤ gb115)); have n4_ := Aside0.mk ((by rw [hg]; exact (below_size (by repeat (first | (with_reducible first | exact HB.out | apply below_alloc | apply pw_below_drewN | apply below_drew1 | refine below_set ?_ GE110.out) | exact HB.out))) : w.heap.size ≤ gb115)); have n5_ := Aside0.mk ((by rw [hg]; exact Nat.ne_of_lt (blk_lt (g := gb110) (o := .cells #[.slice (some ad113) l0.length c0] 47 (0, 0)) (by (with_reducible repeat (first | refine blk_drewN ?_ _ | refine blk_drew ?_ | refine blk_alloc ?_ _)); exact BK110.out)) : gb110 ≠ gb115)); have n6_ := Aside0.mk ((by rw [hg]; exact Nat.ne_of_gt (blk_lt (g := gb110) (o := .cells #[.slice (some ad113) l0.length c0] 47 (0, 0)) (by (with_reducible repeat (first | refine blk_drewN ?_ _ | refine blk_drew ?_ | refine blk_alloc ?_ _)); exact BK110.out)) : gb115 ≠ gb110)); clear BK110; clear HB; have BK110 := n0_; have HB := n1_; have BK115 := n2_; have GW115 := n3_; have GE115 := n4_; have NB110_115 := n5_; have NB115_110 := n6_; clear n0_ n1_ n2_ n3_ n4_ n5_ n6_; clear hb hbox hg; have hnb24 := NB115_110.out; have hnc24 := NB110_115.out; have hcz25_0 : w23.cell? ⟨gb115, 0, none⟩ = some (.int .i64 0) := (blk_cell BK115.out 0).trans rfl; have hcz25_1 : w23.cell? ⟨gb115, 1, none⟩ = some (.slice none 0 0) := (blk_cell BK115.out 1).trans rfl; have hfz25_0 := blk_frozen BK115.out 0; have hfz25_1 := blk_frozen BK115.out 1))
               (try simp only [Act.put, List.setIfInBounds_toArray, List.set_cons_zero, List.set_cons_succ])
               go_cut [45] (fun v45 wc => ∃ (kq : Nat) (x45_21 : Bool), v45 = .bool x45_21 ∧ Aside0 (fixpoint_Check.j3 kq l0 (l0.length : Int) x28_2 (rd_L3 l0 x28_2) ((rd_L3 l0 x28_2).length : Int) x34_3 x45_21 l0 ((rd_T58 (rd_L3 l0 x28_2) x34_3).f0) ((rd_T58 (rd_L3 l0 x28_2) x34_3).f1) = some r) ∧ Aside0 (kq ≤ k3) ∧ Aside0 (wc.heap[gb110]? = some (.cells #[(.slice (some ad113) l0.length c0)] 47 (0, 0))) ∧ Aside0 (wc.heap[gb115]? = some (.cells #[.int .i64 ((rd_T58 (rd_L3 l0 x28_2) x34_3).f0), (.slice A114_1 ((rd_T58 (rd_L3 l0 x28_2) x34_3).f1).length c114_1)] 58 (0, 0))) ∧ Aside0 (Below w.heap.size w wc))
               case first =>
                have H := HC22.out
                clear HC22
                by_cases c26 : ((rd_T58 (rd_L3 l0 x28_2) x34_3).f0) < 0
                ·rw [if_pos c26] at H
                 have c26b0 : decide (((rd_T58 (rd_L3 l0 x28_2) x34_3).f0) < 0) = true := decide_eq_true c26
                 clear c26
                 (first | rw [c26b0] | (simp only [i64_w, i32_w]; rw [c26b0]) | skip)
                 have H' := Aside0.mk H
                 clear H
                 have hnb27 := NB115_110.out
                 have hnc27 := NB110_115.out
                 have hcz28_0 : w23.cell? ⟨gb115, 0, none⟩ = some (.int .i64 0) := (blk_cell BK115.out 0).trans rfl
                 have hcz28_1 : w23.cell? ⟨gb115, 1, none⟩ = some (.slice none 0 0) := (blk_cell BK115.out 1).trans rfl
                 have hfz28_0 := blk_frozen BK115.out 0
                 have hfz28_1 := blk_frozen BK115.out 1
                 go_wp2
                 go_meet
                 case rel => exact ⟨_, (true), (by first | rfl | (simp; done) | (simp [*]; done) | (simp [isEmpty_bne]; done)), H', ⟨by have := HK1.out; have := HK2.out; have := HK3.out; first | omega | exact Nat.le_refl _⟩, ⟨by (with_reducible repeat (first | refine blk_drewN ?_ _ | refine blk_drew ?_ | refine blk_alloc ?_ _)); refine blk_far ?_ NB110_115.out _; (with_reducible repeat (first | refine blk_drewN ?_ _ | refine blk_drew ?_ | refine blk_alloc ?_ _)); refine blk_far ?_ NB110_115.out _; (with_reducible repeat (first | refine blk_drewN ?_ _ | refine blk_drew ?_ | refine blk_alloc ?_ _)); exact BK110.out⟩, ⟨by (with_reducible repeat (first | refine blk_drewN ?_ _ | refine blk_drew ?_ | refine blk_alloc ?_ _)); refine blk_put (cs := #[.int .i64 ((rd_T58 (rd_L3 l0 x28_2) x34_3).f0), .slice none 0 0]) ?_ 1 _ rfl; (with_reducible repeat (first | refine blk_drewN ?_ _ | refine blk_drew ?_ | refine blk_alloc ?_ _)); refine blk_put (cs := #[.int .i64 0, .slice none 0 0]) ?_ 0 _ rfl; (with_reducible repeat (first | refine blk_drewN ?_ _ | refine blk_drew ?_ | refine blk_alloc ?_ _)); exact BK115.out⟩, ⟨by repeat (first | (with_reducible first | exact HB.out | apply below_alloc | apply pw_below_drewN | apply below_drew1 | refine below_set ?_ GE110.out | refine below_set ?_ GE115.out) | exact HB.out)⟩⟩
                ·rw [if_neg c26] at H
                 have c26b0 : decide (((rd_T58 (rd_L3 l0 x28_2) x34_3).f0) < 0) = false := decide_eq_false c26
                 clear c26
                 (first | rw [c26b0] | (simp only [i64_w, i32_w]; rw [c26b0]) | skip)
                 have H' := Aside0.mk H
                 clear H
                 have hnb29 := NB115_110.out
                 have hnc29 := NB110_115.out
                 have hcz30_0 : w23.cell? ⟨gb115, 0, none⟩ = some (.int .i64 0) := (blk_cell BK115.out 0).trans rfl
                 have hcz30_1 : w23.cell? ⟨gb115, 1, none⟩ = some (.slice none 0 0) := (blk_cell BK115.out 1).trans rfl
                 have hfz30_0 := blk_frozen BK115.out 0
                 have hfz30_1 := blk_frozen BK115.out 1
                 go_wp2
                 go_meet
                 case rel => exact ⟨_, (decide (((rd_T58 (rd_L3 l0 x28_2) x34_3).f0) > 1048575)), (by first | rfl | (simp; done) | (simp [*]; done) | (simp [isEmpty_bne]; done)), H', ⟨by have := HK1.out; have := HK2.out; have := HK3.out; first | omega | exact Nat.le_refl _⟩, ⟨by (with_reducible repeat (first | refine blk_drewN ?_ _ | refine blk_drew ?_ | refine blk_alloc ?_ _)); refine blk_far ?_ NB110_115.out _; (with_reducible repeat (first | refine blk_drewN ?_ _ | refine blk_drew ?_ | refine blk_alloc ?_ _)); refine blk_far ?_ NB110_115.out _; (with_reducible repeat (first | refine blk_drewN ?_ _ | refine blk_drew ?_ | refine blk_alloc ?_ _)); exact BK110.out⟩, ⟨by (with_reducible repeat (first | refine blk_drewN ?_ _ | refine blk_drew ?_ | refine blk_alloc ?_ _)); refine blk_put (cs := #[.int .i64 ((rd_T58 (rd_L3 l0 x28_2) x34_3).f0), .slice none 0 0]) ?_ 1 _ rfl; (with_reducible repeat (first | refine blk_drewN ?_ _ | refine blk_drew ?_ | refine blk_alloc ?_ _)); refine blk_put (cs := #[.int .i64 0, .slice none 0 0]) ?_ 0 _ rfl; (with_reducible repeat (first | refine blk_drewN ?_ _ | refine blk_drew ?_ | refine blk_alloc ?_ _)); exact BK115.out⟩, ⟨by repeat (first | (with_reducible first | exact HB.out | apply below_alloc | apply pw_below_drewN | apply below_drew1 | refine below_set ?_ GE110.out | refine below_set ?_ GE115.out) | exact HB.out)⟩⟩
               case rest =>
                clear HC22
                try clear c1
                try clear p1
                try clear q1
                try clear hx1
                try clear c2
                try clear c2b0
                try clear c2b1
                try clear p2
                try clear p6
                try clear c7
                try clear c7b0
                try clear c8
                try clear c8b0
                try clear c9
                try clear c9b0
                try clear c10
                try clear c10b0
                try clear c10b1
                try clear c11
                try clear p11
                try clear q11
                try clear hx11
                try clear c12
                try clear c16
                try clear c16b0
                try clear c17
                try clear c17b0
                try clear c18
                try clear c18b0
                try clear c19
                try clear c19b0
                try clear c20
                try clear c20b0
                try clear c21
                try clear c21b0
                try clear c24
                try clear c26
                try clear c26b0
                try clear c27
                try clear c29
                try clear hcz15_0
                try clear hcz25_0
                try clear hcz25_1
                try clear hcz28_0
                try clear hcz28_1
                try clear hcz30_0
                try clear hcz30_1
                try clear hcz4_0
                try clear hcz6_0
                try clear hfz15_0
                try clear hfz25_0
                try clear hfz25_1
                try clear hfz28_0
                try clear hfz28_1
                try clear hfz30_0
                try clear hfz30_1
                try clear hfz4_0
                try clear hfz6_0
                try clear hx111_0
                try clear hx113_0
                try clear hx114_0
                try clear hx114_1
                try clear p1
                try clear p11
                try clear p111
                try clear p113
                try clear p114
                try clear p2
                try clear p6
                try clear q1
                try clear q11
                try clear q111
                try clear q113
                try clear q114
                obtain ⟨kq, x45_21, rfl, HA, HJ21, BK110, BK115, HB⟩ := hcut
                cases kq with
                | zero => exact absurd HA.out (by simp [fixpoint_Check.j3])
                | succ kj21 =>
                 have H := HA.out
                 clear HA
                 simp only [fixpoint_Check.j3] at H
                 by_cases c31 : x45_21 = true
                 ·subst c31
                  have H1 : (some 1) = some r := by rw [if_pos rfl] at H; exact H
                  clear H
                  have H := H1
                  clear H1
                  obtain rfl := Option.some.inj H
                  go_wp2
                  go_ret
                  exact ⟨by first | rfl | (simp [errW_none, errW_some] <;> rfl) | (simp [*, errW_none, errW_some] <;> rfl), by repeat (first | (with_reducible first | exact HB.out | apply below_alloc | apply pw_below_drewN | apply below_drew1 | refine below_set ?_ GE110.out | refine below_set ?_ GE115.out) | exact HB.out)⟩
                 ·replace c31 := Bool.eq_false_iff.mpr c31
                  subst c31
                  have H1 : ((slices_ContainsFunc_172_at_173_47.f kj21 ((rd_T58 (rd_L3 l0 x28_2) x34_3).f1) l0).bind fun t116 => (if t116 = true then (some 3) else (fixpoint_Check.l2 kj21 l0 (l0.length : Int) x28_2 (rd_L3 l0 x28_2) ((rd_L3 l0 x28_2).length : Int) (wrap64 (x34_3 + 1)) l0))) = some r := by rw [if_neg (show ¬ (false = true) by decide)] at H; exact H
                  clear H
                  have H := H1
                  clear H1
                  replace H := Option.bind_eq_some_iff.mp H
                  obtain ⟨t116, A320, H⟩ := H
                  replace H : (if t116 = true then (some 3) else (fixpoint_Check.l2 kj21 l0 (l0.length : Int) x28_2 (rd_L3 l0 x28_2) ((rd_L3 l0 x28_2).length : Int) (wrap64 (x34_3 + 1)) l0)) = some r := H
                  have A32 := Aside0.mk A320
                  clear A320
                  by_cases c33 : t116 = true
                  ·subst c33
                   have H1 : (some 3) = some r := by rw [if_pos rfl] at H; exact H
                   clear H
                   have H := H1
                   clear H1
                   obtain rfl := Option.some.inj H
                   have hnb34 := NB115_110.out
                   have hnc34 := NB110_115.out
                   have hcz35_0 : wc.cell? ⟨gb115, 0, none⟩ = some (.int .i64 ((rd_T58 (rd_L3 l0 x28_2) x34_3).f0)) := (blk_cell BK115.out 0).trans rfl
                   have hcz35_1 : wc.cell? ⟨gb115, 1, none⟩ = some (.slice A114_1 ((rd_T58 (rd_L3 l0 x28_2) x34_3).f1).length c114_1) := (blk_cell BK115.out 1).trans rfl
                   have hfz35_0 := blk_frozen BK115.out 0
                   have hfz35_1 := blk_frozen BK115.out 1
                   go_wp2_with (first | (go_at_call 172; (with_reducible refine (slices_ContainsFunc_172_at_173_47.calls kj21 _ _ ((rd_T58 (rd_L3 l0 x28_2) x34_3).f1) _ (some ad113) c0 l0 true _ ?side1 ?side2 ?side3 ?side4 ?side5 A32.out).mono ?_); (case side1 => repeat (first | exact (Kd.C_below HR114_1.out HB.out) | (with_reducible refine Kd.C_alloc ?_ _) | (with_reducible refine Kd.C_drewN ?_ _) | (with_reducible refine Kd.C_drew ?_))); (case side2 => exact HC114_1.out); (case side3 => repeat (first | exact (Kd.C_below HR0.out HB.out) | (with_reducible refine Kd.C_alloc ?_ _) | (with_reducible refine Kd.C_drewN ?_ _) | (with_reducible refine Kd.C_drew ?_))); (case side4 => exact HC0.out); (case side5 => exact (by (with_reducible repeat (first | refine blk_drewN ?_ _ | refine blk_drew ?_ | refine blk_alloc ?_ _)); exact BK110.out)); rintro e w36 ⟨rfl, hb⟩; have n0_ := Aside0.mk (blk_below (g := gb110) (o := .cells #[.slice (some ad113) l0.length c0] 47 (0, 0)) (by (with_reducible repeat (first | refine blk_drewN ?_ _ | refine blk_drew ?_ | refine blk_alloc ?_ _)); exact BK110.out) hb); have n1_ := Aside0.mk (blk_below (g := gb115) (o := .cells #[.int .i64 ((rd_T58 (rd_L3 l0 x28_2) x34_3).f0), .slice A114_1 ((rd_T58 (rd_L3 l0 x28_2) x34_3).f1).length c114_1] 58 (0, 0)) (by (with_reducible repeat (first | refine blk_drewN ?_ _ | refine blk_drew ?_ | refine blk_alloc ?_ _)); exact BK115.out) hb); have n2_ := Aside0.mk (below_step (by repeat (first | (with_reducible first | exact HB.out | apply below_alloc | apply pw_below_drewN | apply below_drew1 | refine below_set ?_ GE110.out | refine below_set ?_ GE115.out) | exact HB.out)) hb); clear BK110; clear BK115; clear HB; have BK110 := n0_; have BK115 := n1_; have HB := n2_; clear n0_ n1_ n2_; (try clear hb); (try clear hb2); (try clear hk); (try clear hi)))
                   go_ret
                   exact ⟨by first | rfl | (simp [errW_none, errW_some] <;> rfl) | (simp [*, errW_none, errW_some] <;> rfl), by repeat (first | (with_reducible first | exact HB.out | apply below_alloc | apply pw_below_drewN | apply below_drew1 | refine below_set ?_ GE110.out | refine below_set ?_ GE115.out) | exact HB.out)⟩
                  ·replace c33 := Bool.eq_false_iff.mpr c33
                   subst c33
                   have H1 : (fixpoint_Check.l2 kj21 l0 (l0.length : Int) x28_2 (rd_L3 l0 x28_2) ((rd_L3 l0 x28_2).length : Int) (wrap64 (x34_3 + 1)) l0) = some r := by rw [if_neg (show ¬ (false = true) by decide)] at H; exact H
                   clear H
                   have H := H1
                   clear H1
                   have H' := Aside0.mk H
                   clear H
                   have hnb37 := NB115_110.out
                   have hnc37 := NB110_115.out
                   have hcz38_0 : wc.cell? ⟨gb115, 0, none⟩ = some (.int .i64 ((rd_T58 (rd_L3 l0 x28_2) x34_3).f0)) := (blk_cell BK115.out 0).trans rfl
                   have hcz38_1 : wc.cell? ⟨gb115, 1, none⟩ = some (.slice A114_1 ((rd_T58 (rd_L3 l0 x28_2) x34_3).f1).length c114_1) := (blk_cell BK115.out 1).trans rfl
                   have hfz38_0 := blk_frozen BK115.out 0
                   have hfz38_1 := blk_frozen BK115.out 1
                   go_wp2_with (first | (go_at_call 172; (with_reducible refine (slices_ContainsFunc_172_at_173_47.calls kj21 _ _ ((rd_T58 (rd_L3 l0 x28_2) x34_3).f1) _ (some ad113) c0 l0 false _ ?side1 ?side2 ?side3 ?side4 ?side5 A32.out).mono ?_); (case side1 => repeat (first | exact (Kd.C_below HR114_1.out HB.out) | (with_reducible refine Kd.C_alloc ?_ _) | (with_reducible refine Kd.C_drewN ?_ _) | (with_reducible refine Kd.C_drew ?_))); (case side2 => exact HC114_1.out); (case side3 => repeat (first | exact (Kd.C_below HR0.out HB.out) | (with_reducible refine Kd.C_alloc ?_ _) | (with_reducible refine Kd.C_drewN ?_ _) | (with_reducible refine Kd.C_drew ?_))); (case side4 => exact HC0.out); (case side5 => exact (by (with_reducible repeat (first | refine blk_drewN ?_ _ | refine blk_drew ?_ | refine blk_alloc ?_ _)); exact BK110.out)); rintro e w39 ⟨rfl, hb⟩; have n0_ := Aside0.mk (blk_below (g := gb110) (o := .cells #[.slice (some ad113) l0.length c0] 47 (0, 0)) (by (with_reducible repeat (first | refine blk_drewN ?_ _ | refine blk_drew ?_ | refine blk_alloc ?_ _)); exact BK110.out) hb); have n1_ := Aside0.mk (blk_below (g := gb115) (o := .cells #[.int .i64 ((rd_T58 (rd_L3 l0 x28_2) x34_3).f0), .slice A114_1 ((rd_T58 (rd_L3 l0 x28_2) x34_3).f1).length c114_1] 58 (0, 0)) (by (with_reducible repeat (first | refine blk_drewN ?_ _ | refine blk_drew ?_ | refine blk_alloc ?_ _)); exact BK115.out) hb); have n2_ := Aside0.mk (below_step (by repeat (first | (with_reducible first | exact HB.out | apply below_alloc | apply pw_below_drewN | apply below_drew1 | refine below_set ?_ GE110.out | refine below_set ?_ GE115.out) | exact HB.out)) hb); clear BK110; clear BK115; clear HB; have BK110 := n0_; have BK115 := n1_; have HB := n2_; clear n0_ n1_ n2_; (try clear hb); (try clear hb2); (try clear hk); (try clear hi)))
                   go_roundg kj21
                   case measure => have := HK1.out; have := HK2.out; have := HK3.out; have := HJ21.out; omega
                   case rel => exact ⟨(wrap64 (x34_3 + 1)), (by first | rfl | (simp; done) | (simp [*]; done) | (simp [isEmpty_bne]; done)), H', ⟨by have := HK1.out; have := HK2.out; have := HK3.out; have := HJ21.out; omega⟩, ⟨by (with_reducible repeat (first | refine blk_drewN ?_ _ | refine blk_drew ?_ | refine blk_alloc ?_ _)); exact BK110.out⟩, ⟨by repeat (first | (with_reducible first | exact HB.out | apply below_alloc | apply pw_below_drewN | apply below_drew1 | refine below_set ?_ GE110.out | refine below_set ?_ GE115.out) | exact HB.out)⟩⟩
              ·rw [if_neg c21] at H
               exact absurd H (by simp)
             ·rw [if_neg c20] at H
              exact absurd H (by simp)
            ·rw [if_neg c19] at H
             have c19b0 : decide (x34_3 < ((rd_L3 l0 x28_2).length : Int)) = false := decide_eq_false c19
             clear c19
             have H' := Aside0.mk H
             clear H
             go_wp2
             go_roundg k3
             case measure => have := HK1.out; have := HK2.out; have := HK3.out; omega
             case rel => exact ⟨(wrap64 (x28_2 + 1)), (by first | rfl | (simp; done) | (simp [*]; done) | (simp [isEmpty_bne]; done)), H', ⟨by have := HK1.out; have := HK2.out; have := HK3.out; omega⟩, ⟨by (with_reducible repeat (first | refine blk_drewN ?_ _ | refine blk_drew ?_ | refine blk_alloc ?_ _)); exact BK110.out⟩, ⟨by repeat (first | (with_reducible first | exact HB.out | apply below_alloc | apply pw_below_drewN | apply below_drew1 | refine below_set ?_ GE110.out) | exact HB.out)⟩⟩
         ·rw [if_neg c18] at H
          exact absurd H (by simp)
        ·rw [if_neg c17] at H
         exact absurd H (by simp)
       ·rw [if_neg c16] at H
        have c16b0 : decide (x28_2 < (l0.length : Int)) = false := decide_eq_false c16
        clear c16
        obtain rfl := Option.some.inj H
        go_wp2
        go_ret
        exact ⟨by first | rfl | (simp [errW_none, errW_some] <;> rfl) | (simp [*, errW_none, errW_some] <;> rfl), by repeat (first | (with_reducible first | exact HB.out | apply below_alloc | apply pw_below_drewN | apply below_drew1 | refine below_set ?_ GE110.out) | exact HB.out)⟩

/-! ### fixpoint_derive: function 100 -/
def fixpoint_derive.l0 : Nat → List Int → Int → List Int → Int → Int → Option (Int)
 | 0, _, _, _, _, _ => none
 | k + 1, x1, x5, x11, x12, x13 => if x13 < x12 then (if 0 ≤ x13 then (if x13 < (x11.length : Int) then (if 0 ≤ (rd x11 x13) then (if (rd x11 x13) < (x1.length : Int) then (fixpoint_derive.l0 k x1 (Go.bits .and .i64 x5 (rd x1 (rd x11 x13))) x11 x12 (wrap64 (x13 + 1))) else (none)) else (none)) else (none)) else (none)) else (some x5)
def fixpoint_derive.f (k : Nat) (a0_0 : Int) (l0_1 : List Int) (l1 : List Int) : Option (Int) := fixpoint_derive.l0 k l1 a0_0 l0_1 (l0_1.length : Int) 0
theorem fixpoint_derive.mono_l : ∀ k, (∀ y0 y1 y2 y3 y4, LeO (fixpoint_derive.l0 k y0 y1 y2 y3 y4) (fixpoint_derive.l0 (k + 1) y0 y1 y2 y3 y4))
 | 0 => fun _ _ _ _ _ r h => by simp [fixpoint_derive.l0] at h
 | k + 1 => by
  have ih0 := fixpoint_derive.mono_l k
  ·intro y0 y1 y2 y3 y4
   unfold fixpoint_derive.l0
   repeat' first
   | (with_reducible exact ih0 _ _ _ _ _)
   | (with_reducible exact LeO.refl _)
   | (with_reducible exact LeO.none _)
   | (with_reducible refine LeO.ite ?_ ?_)
   | (with_reducible refine LeO.bind ?_ (fun _ => ?_))
   | exact ih0 _ _ _ _ _
   | exact LeO.none _
   | refine LeO.ite ?_ ?_
   | refine LeO.bind ?_ (fun _ => ?_)
theorem fixpoint_derive.mono : ∀ a0 a1 a2 k, LeO (fixpoint_derive.f k a0 a1 a2) (fixpoint_derive.f (k + 1) a0 a1 a2) := by
 intro a0 a1 a2 k
 have ih0 := fixpoint_derive.mono_l k
 unfold fixpoint_derive.f
 repeat' first
   | (with_reducible exact ih0 _ _ _ _ _)
   | (with_reducible exact LeO.refl _)
   | (with_reducible exact LeO.none _)
   | (with_reducible refine LeO.ite ?_ ?_)
   | (with_reducible refine LeO.bind ?_ (fun _ => ?_))
   | exact ih0 _ _ _ _ _
   | exact LeO.none _
   | refine LeO.ite ?_ ?_
   | refine LeO.bind ?_ (fun _ => ?_)
set_option maxHeartbeats 8000000 in
set_option maxRecDepth 100000 in
theorem fixpoint_derive.calls (k : Nat) (a0_0 : Int) (A0_1 : Option Addr) (c0_1 : Nat) (l0_1 : List Int) (A1 : Option Addr) (c1 : Nat) (l1 : List Int) (r : Int) (w : World) (hr0_1 : Kd.C (Kd.int .i64) w A0_1 l0_1.length l0_1) (hc0_1 : l0_1.length ≤ c0_1) (hr1 : Kd.C (Kd.int .i64) w A1 l1.length l1) (hc1 : l1.length ≤ c1) (h : fixpoint_derive.f k a0_0 l0_1 l1 = some r) :
  Calls Try.prog 100 #[.agg #[.int .i64 a0_0, .slice A0_1 l0_1.length c0_1], .slice A1 l1.length c1] w fun e w' => e = .returned (.int .i64 r) ∧ Below w.heap.size w w' := by
 have hu58 := Try.underlying58
 have HR0_1 := Aside0.mk hr0_1
 have HC0_1 := Aside0.mk hc0_1
 clear hr0_1 hc0_1
 have HR1 := Aside0.mk hr1
 have HC1 := Aside0.mk hc1
 clear hr1 hc1
 have HB := Aside0.mk (Below.refl w.heap.size w)
 have H : (fixpoint_derive.l0 k l1 a0_0 l0_1 (l0_1.length : Int) 0) = some r := h
 clear h
 have H' := Aside0.mk H
 clear H
 go_enter Try.func100, Try.ntmps100
 go_wp2_with (first | ((with_reducible refine gate_dst (N := 2) rfl ?_); refine box_event ?hg (N := 2) ?hd (cs := #[.int .i64 a0_0, .slice A0_1 l0_1.length c0_1]) (t := 58) ?hr ?_; (case hd => rfl); (case hg => rfl); (case hr => first | (go_simp; done) | (go_simp; rfl)); intro gb117 hg w3 hbox hb; have n0_ := Aside0.mk (below_step (by repeat (first | (with_reducible first | exact HB.out | apply below_alloc | apply pw_below_drewN | apply below_drew1) | exact HB.out)) hb); have n1_ := Aside0.mk (hbox); have n2_ := Aside0.mk ((by rw [hg]; exact (below_size (by repeat (first | (with_reducible first | exact HB.out | apply below_alloc | apply pw_below_drewN | apply below_drew1) | exact HB.out))) : w.heap.size ≤ gb117)); have n3_ := Aside0.mk ((by rw [hg]; exact (below_size (by repeat (first | (with_reducible first | exact HB.out | apply below_alloc | apply pw_below_drewN | apply below_drew1) | exact HB.out))) : w.heap.size ≤ gb117)); clear HB; have HB := n0_; have BK117 := n1_; have GW117 := n2_; have GE117 := n3_; clear n0_ n1_ n2_ n3_; clear hb hbox hg; have hcz4_0 : w3.cell? ⟨gb117, 0, none⟩ = some (.int .i64 a0_0) := (blk_cell BK117.out 0).trans rfl; have hcz4_1 : w3.cell? ⟨gb117, 1, none⟩ = some (.slice A0_1 l0_1.length c0_1) := (blk_cell BK117.out 1).trans rfl; have hfz4_0 := blk_frozen BK117.out 0; have hfz4_1 := blk_frozen BK117.out 1))
 go_loopg [5, 13] k (fun kq v5 v13 w' => ∃ (x5_1 : Int) (x13_1 : Int), v5 = .int .i64 x5_1 ∧ v13 = .int .i64 x13_1 ∧ Aside0 (fixpoint_derive.l0 kq l1 x5_1 l0_1 (l0_1.length : Int) x13_1 = some r) ∧ Aside0 (kq ≤ k) ∧ Aside0 (w'.heap[gb117]? = some (.cells #[.int .i64 a0_0, (.slice A0_1 l0_1.length c0_1)] 58 (0, 0))) ∧ Aside0 (Below w.heap.size w w'))
 case atStart => exact ⟨(a0_0), (0), (by first | rfl | (simp; done) | (simp [*]; done) | (simp [isEmpty_bne]; done)), (by first | rfl | (simp; done) | (simp [*]; done) | (simp [isEmpty_bne]; done)), H', ⟨Nat.le_refl _⟩, ⟨by (with_reducible repeat (first | refine blk_drewN ?_ _ | refine blk_drew ?_ | refine blk_alloc ?_ _)); exact BK117.out⟩, ⟨by repeat (first | (with_reducible first | exact HB.out | apply below_alloc | apply pw_below_drewN | apply below_drew1 | refine below_set ?_ GE117.out) | exact HB.out)⟩⟩
 case round =>
  clear H'
  try clear c1
  try clear p2
  try clear hcz4_0
  try clear hcz4_1
  try clear hfz4_0
  try clear hfz4_1
  obtain ⟨x5_1, x13_1, rfl, rfl, HA, HK1, BK117, HB⟩ := hrel
  cases gk with
  | zero => exact absurd HA.out (by simp [fixpoint_derive.l0])
  | succ k1 =>
   have H := HA.out
   clear HA
   simp only [fixpoint_derive.l0] at H
   by_cases c5 : x13_1 < (l0_1.length : Int)
   ·rw [if_pos c5] at H
    have c5b0 : decide (x13_1 < (l0_1.length : Int)) = true := decide_eq_true c5
    clear c5
    by_cases c6 : 0 ≤ x13_1
    ·rw [if_pos c6] at H
     have c6b0 : decide (0 ≤ x13_1) = true := decide_eq_true c6
     clear c6
     by_cases c7 : x13_1 < (l0_1.length : Int)
     ·rw [if_pos c7] at H
      have c7b0 : decide (x13_1 < (l0_1.length : Int)) = true := decide_eq_true c7
      clear c7
      by_cases c8 : 0 ≤ (rd l0_1 x13_1)
      ·rw [if_pos c8] at H
       have c8b0 : decide (0 ≤ (rd l0_1 x13_1)) = true := decide_eq_true c8
       clear c8
       by_cases c9 : (rd l0_1 x13_1) < (l1.length : Int)
       ·rw [if_pos c9] at H
        have c9b0 : decide ((rd l0_1 x13_1) < (l1.length : Int)) = true := decide_eq_true c9
        clear c9
        have H' := Aside0.mk H
        clear H
        have p118 : 0 ≤ (x13_1 : Int) := of_decide_eq_true (by first | (with_reducible assumption) | assumption)
        have q118 : x13_1 < (l0_1.length : Int) := of_decide_eq_true (by first | (with_reducible assumption) | assumption)
        obtain ⟨ad118, e118, hx118_0⟩ := Kd.at_int HR0_1.out x13_1 p118 q118
        cases e118
        replace hx118_0 := (HB.out.cell (World.block_lt_of_cell? w _ hx118_0)).trans hx118_0
        replace p118 := eq_true p118
        replace q118 := eq_true q118
        have p119 : 0 ≤ ((rd l0_1 x13_1) : Int) := of_decide_eq_true (by first | (with_reducible assumption) | assumption)
        have q119 : (rd l0_1 x13_1) < (l1.length : Int) := of_decide_eq_true (by first | (with_reducible assumption) | assumption)
        obtain ⟨ad119, e119, hx119_0⟩ := Kd.at_int HR1.out (rd l0_1 x13_1) p119 q119
        cases e119
        replace hx119_0 := (HB.out.cell (World.block_lt_of_cell? w _ hx119_0)).trans hx119_0
        replace p119 := eq_true p119
        replace q119 := eq_true q119
        go_wp2
        go_roundg k1
        case measure => have := HK1.out; omega
        case rel => exact ⟨(Go.bits .and .i64 x5_1 (rd l1 (rd l0_1 x13_1))), (wrap64 (x13_1 + 1)), (by first | rfl | (simp; done) | (simp [*]; done) | (simp [isEmpty_bne]; done)), (by first | rfl | (simp; done) | (simp [*]; done) | (simp [isEmpty_bne]; done)), H', ⟨by have := HK1.out; omega⟩, ⟨by (with_reducible repeat (first | refine blk_drewN ?_ _ | refine blk_drew ?_ | refine blk_alloc ?_ _)); exact BK117.out⟩, ⟨by repeat (first | (with_reducible first | exact HB.out | apply below_alloc | apply pw_below_drewN | apply below_drew1 | refine below_set ?_ GE117.out) | exact HB.out)⟩⟩
       ·rw [if_neg c9] at H
        exact absurd H (by simp)
      ·rw [if_neg c8] at H
       exact absurd H (by simp)
     ·rw [if_neg c7] at H
      exact absurd H (by simp)
    ·rw [if_neg c6] at H
     exact absurd H (by simp)
   ·rw [if_neg c5] at H
    have c5b0 : decide (x13_1 < (l0_1.length : Int)) = false := decide_eq_false c5
    clear c5
    obtain rfl := Option.some.inj H
    go_wp2
    go_ret
    exact ⟨by first | rfl | (simp [errW_none, errW_some] <;> rfl) | (simp [*, errW_none, errW_some] <;> rfl), by repeat (first | (with_reducible first | exact HB.out | apply below_alloc | apply pw_below_drewN | apply below_drew1 | refine below_set ?_ GE117.out) | exact HB.out)⟩

/-! ### fixpoint_deriveAll: function 168 -/
def fixpoint_deriveAll.l0 : Nat → List Int → Int → List (S58) → Int → Int → Option (Int)
 | 0, _, _, _, _, _ => none
 | k + 1, x1, x5, x8, x9, x10 => if x10 < x9 then (if 0 ≤ x10 then (if x10 < (x8.length : Int) then ((fixpoint_derive.f k ((rd_T58 x8 x10).f0) ((rd_T58 x8 x10).f1) x1).bind fun t122 => (fixpoint_deriveAll.l0 k x1 (Go.bits .or .i64 x5 t122) x8 x9 (wrap64 (x10 + 1)))) else (none)) else (none)) else (some x5)
def fixpoint_deriveAll.f (k : Nat) (l0 : List (S58)) (l1 : List Int) : Option (Int) := fixpoint_deriveAll.l0 k l1 0 l0 (l0.length : Int) 0
theorem fixpoint_deriveAll.mono_l : ∀ k, (∀ y0 y1 y2 y3 y4, LeO (fixpoint_deriveAll.l0 k y0 y1 y2 y3 y4) (fixpoint_deriveAll.l0 (k + 1) y0 y1 y2 y3 y4))
 | 0 => fun _ _ _ _ _ r h => by simp [fixpoint_deriveAll.l0] at h
 | k + 1 => by
  have ih0 := fixpoint_deriveAll.mono_l k
  ·intro y0 y1 y2 y3 y4
   unfold fixpoint_deriveAll.l0
   repeat' first
   | (with_reducible exact ih0 _ _ _ _ _)
   | (with_reducible exact fixpoint_derive.mono _ _ _ _)
   | (with_reducible exact LeO.refl _)
   | (with_reducible exact LeO.none _)
   | (with_reducible refine LeO.ite ?_ ?_)
   | (with_reducible refine LeO.bind ?_ (fun _ => ?_))
   | exact ih0 _ _ _ _ _
   | exact fixpoint_derive.mono _ _ _ _
   | exact LeO.none _
   | refine LeO.ite ?_ ?_
   | refine LeO.bind ?_ (fun _ => ?_)
theorem fixpoint_deriveAll.mono : ∀ a0 a1 k, LeO (fixpoint_deriveAll.f k a0 a1) (fixpoint_deriveAll.f (k + 1) a0 a1) := by
 intro a0 a1 k
 have ih0 := fixpoint_deriveAll.mono_l k
 unfold fixpoint_deriveAll.f
 repeat' first
   | (with_reducible exact ih0 _ _ _ _ _)
   | (with_reducible exact fixpoint_derive.mono _ _ _ _)
   | (with_reducible exact LeO.refl _)
   | (with_reducible exact LeO.none _)
   | (with_reducible refine LeO.ite ?_ ?_)
   | (with_reducible refine LeO.bind ?_ (fun _ => ?_))
   | exact ih0 _ _ _ _ _
   | exact fixpoint_derive.mono _ _ _ _
   | exact LeO.none _
   | refine LeO.ite ?_ ?_
   | refine LeO.bind ?_ (fun _ => ?_)
set_option maxHeartbeats 8000000 in
set_option maxRecDepth 100000 in
theorem fixpoint_deriveAll.calls (k : Nat) (A0 : Option Addr) (c0 : Nat) (l0 : List (S58)) (A1 : Option Addr) (c1 : Nat) (l1 : List Int) (r : Int) (w : World) (hr0 : Kd.C k58 w A0 l0.length l0) (hc0 : l0.length ≤ c0) (hr1 : Kd.C (Kd.int .i64) w A1 l1.length l1) (hc1 : l1.length ≤ c1) (h : fixpoint_deriveAll.f k l0 l1 = some r) :
  Calls Try.prog 168 #[.slice A0 l0.length c0, .slice A1 l1.length c1] w fun e w' => e = .returned (.int .i64 r) ∧ Below w.heap.size w w' := by
 have hu58 := Try.underlying58
 have HR0 := Aside0.mk hr0
 have HC0 := Aside0.mk hc0
 clear hr0 hc0
 have HR1 := Aside0.mk hr1
 have HC1 := Aside0.mk hc1
 clear hr1 hc1
 have HB := Aside0.mk (Below.refl w.heap.size w)
 have H : (fixpoint_deriveAll.l0 k l1 0 l0 (l0.length : Int) 0) = some r := h
 clear h
 have H' := Aside0.mk H
 clear H
 go_enter Try.func168, Try.ntmps168
 go_wp2
 go_loopg [5, 10] k (fun kq v5 v10 w' => ∃ (x5_1 : Int) (x10_1 : Int), v5 = .int .i64 x5_1 ∧ v10 = .int .i64 x10_1 ∧ Aside0 (fixpoint_deriveAll.l0 kq l1 x5_1 l0 (l0.length : Int) x10_1 = some r) ∧ Aside0 (kq ≤ k) ∧ Aside0 (Below w.heap.size w w'))
 case atStart => exact ⟨(0), (0), (by first | rfl | (simp; done) | (simp [*]; done) | (simp [isEmpty_bne]; done)), (by first | rfl | (simp; done) | (simp [*]; done) | (simp [isEmpty_bne]; done)), H', ⟨Nat.le_refl _⟩, ⟨by repeat (first | (with_reducible first | exact HB.out | apply below_alloc | apply pw_below_drewN | apply below_drew1) | exact HB.out)⟩⟩
 case round =>
  clear H'
  try clear c1
  try clear p2
  obtain ⟨x5_1, x10_1, rfl, rfl, HA, HK1, HB⟩ := hrel
  cases gk with
  | zero => exact absurd HA.out (by simp [fixpoint_deriveAll.l0])
  | succ k1 =>
   have H := HA.out
   clear HA
   simp only [fixpoint_deriveAll.l0] at H
   by_cases c3 : x10_1 < (l0.length : Int)
   ·rw [if_pos c3] at H
    have c3b0 : decide (x10_1 < (l0.length : Int)) = true := decide_eq_true c3
    clear c3
    by_cases c4 : 0 ≤ x10_1
    ·rw [if_pos c4] at H
     have c4b0 : decide (0 ≤ x10_1) = true := decide_eq_true c4
     clear c4
     by_cases c5 : x10_1 < (l0.length : Int)
     ·rw [if_pos c5] at H
      have c5b0 : decide (x10_1 < (l0.length : Int)) = true := decide_eq_true c5
      clear c5
      replace H := Option.bind_eq_some_iff.mp H
      obtain ⟨t122, A60, H⟩ := H
      replace H : (fixpoint_deriveAll.l0 k1 l1 (Go.bits .or .i64 x5_1 t122) l0 (l0.length : Int) (wrap64 (x10_1 + 1))) = some r := H
      have A6 := Aside0.mk A60
      clear A60
      have H' := Aside0.mk H
      clear H
      have p120 : 0 ≤ (x10_1 : Int) := of_decide_eq_true (by first | (with_reducible assumption) | assumption)
      have q120 : x10_1 < (l0.length : Int) := of_decide_eq_true (by first | (with_reducible assumption) | assumption)
      obtain ⟨ad120, A120_1, c120_1, e120, hx120_0, hx120_1, hl120_1, hi120_1⟩ := at_T58 HR0.out x10_1 p120 q120
      cases e120
      replace hx120_0 := (HB.out.cell (World.block_lt_of_cell? w _ hx120_0)).trans hx120_0
      replace hx120_1 := (HB.out.cell (World.block_lt_of_cell? w _ hx120_1)).trans hx120_1
      have HR120_1 := Aside0.mk hi120_1
      have HC120_1 := Aside0.mk hl120_1
      clear hi120_1 hl120_1
      replace p120 := eq_true p120
      replace q120 := eq_true q120
      go_wp2_with (first | ((with_reducible refine gate_dst (N := 7) rfl ?_); refine box_event ?hg (N := 7) ?hd (cs := #[.int .i64 0, .slice none 0 0]) (t := 58) ?hr ?_; (case hd => rfl); (case hg => rfl); (case hr => first | (go_simp; done) | (go_simp; rfl)); intro gb121 hg w7 hbox hb; have n0_ := Aside0.mk (below_step (by repeat (first | (with_reducible first | exact HB.out | apply below_alloc | apply pw_below_drewN | apply below_drew1) | exact HB.out)) hb); have n1_ := Aside0.mk (hbox); have n2_ := Aside0.mk ((by rw [hg]; exact (below_size (by repeat (first | (with_reducible first | exact HB.out | apply below_alloc | apply pw_below_drewN | apply below_drew1) | exact HB.out))) : w.heap.size ≤ gb121)); have n3_ := Aside0.mk ((by rw [hg]; exact (below_size (by repeat (first | (with_reducible first | exact HB.out | apply below_alloc | apply pw_below_drewN | apply below_drew1) | exact HB.out))) : w.heap.size ≤ gb121)); clear HB; have HB := n0_; have BK121 := n1_; have GW121 := n2_; have GE121 := n3_; clear n0_ n1_ n2_ n3_; clear hb hbox hg; have hcz8_0 : w7.cell? ⟨gb121, 0, none⟩ = some (.int .i64 0) := (blk_cell BK121.out 0).trans rfl; have hcz8_1 : w7.cell? ⟨gb121, 1, none⟩ = some (.slice none 0 0) := (blk_cell BK121.out 1).trans rfl; have hfz8_0 := blk_frozen BK121.out 0; have hfz8_1 := blk_frozen BK121.out 1) | ((with_reducible refine gate_callee (f := 100) rfl ?_); refine goesL_ (some 17) rfl rfl Try.func100 (by kernel_rfl) rfl #[.agg #[.int .i64 ((rd_T58 l0 x10_1).f0), .slice A120_1 ((rd_T58 l0 x10_1).f1).length c120_1], .slice A1 l1.length c1] rfl (by (try simp only [List.map_toArray, List.map_cons, List.map_nil]); first | done | rfl | (simp only [List.length_drop, List.length_take]; rfl)) ?_; (with_reducible refine (fixpoint_derive.calls k1 ((rd_T58 l0 x10_1).f0) _ _ ((rd_T58 l0 x10_1).f1) _ _ l1 t122 _ ?side1 ?side2 ?side3 ?side4 A6.out).mono ?_); (case side1 => exact Kd.C_below HR120_1.out (by repeat (first | (with_reducible first | exact HB.out | apply below_alloc | apply pw_below_drewN | apply below_drew1 | refine below_set ?_ GE121.out) | exact HB.out))); (case side2 => exact HC120_1.out); (case side3 => exact Kd.C_below HR1.out (by repeat (first | (with_reducible first | exact HB.out | apply below_alloc | apply pw_below_drewN | apply below_drew1 | refine below_set ?_ GE121.out) | exact HB.out))); (case side4 => exact HC1.out); rintro e w9 ⟨rfl, hb⟩; refine ⟨_, rfl, ?_⟩; have n0_ := Aside0.mk (blk_below (g := gb121) (o := .cells #[.int .i64 ((rd_T58 l0 x10_1).f0), .slice A120_1 ((rd_T58 l0 x10_1).f1).length c120_1] 58 (0, 0)) (by (with_reducible repeat (first | refine blk_drewN ?_ _ | refine blk_drew ?_ | refine blk_alloc ?_ _)); refine blk_put (cs := #[.int .i64 ((rd_T58 l0 x10_1).f0), .slice none 0 0]) ?_ 1 _ rfl; (with_reducible repeat (first | refine blk_drewN ?_ _ | refine blk_drew ?_ | refine blk_alloc ?_ _)); refine blk_put (cs := #[.int .i64 0, .slice none 0 0]) ?_ 0 _ rfl; (with_reducible repeat (first | refine blk_drewN ?_ _ | refine blk_drew ?_ | refine blk_alloc ?_ _)); exact BK121.out) hb); have n1_ := Aside0.mk (below_step (by repeat (first | (with_reducible first | exact HB.out | apply below_alloc | apply pw_below_drewN | apply below_drew1 | refine below_set ?_ GE121.out) | exact HB.out)) hb); clear BK121; clear HB; have BK121 := n0_; have HB := n1_; clear n0_ n1_; (try clear hb); (try clear hb2); (try clear hk); (try clear hi)))
      go_roundg k1
      case measure => have := HK1.out; omega
      case rel => exact ⟨(Go.bits .or .i64 x5_1 t122), (wrap64 (x10_1 + 1)), (by first | rfl | (simp; done) | (simp [*]; done) | (simp [isEmpty_bne]; done)), (by first | rfl | (simp; done) | (simp [*]; done) | (simp [isEmpty_bne]; done)), H', ⟨by have := HK1.out; omega⟩, ⟨by repeat (first | (with_reducible first | exact HB.out | apply below_alloc | apply pw_below_drewN | apply below_drew1 | refine below_set ?_ GE121.out) | exact HB.out)⟩⟩
     ·rw [if_neg c5] at H
      exact absurd H (by simp)
    ·rw [if_neg c4] at H
     exact absurd H (by simp)
   ·rw [if_neg c3] at H
    have c3b0 : decide (x10_1 < (l0.length : Int)) = false := decide_eq_false c3
    clear c3
    obtain rfl := Option.some.inj H
    go_wp2
    go_ret
    exact ⟨by first | rfl | (simp [errW_none, errW_some] <;> rfl) | (simp [*, errW_none, errW_some] <;> rfl), by repeat (first | (with_reducible first | exact HB.out | apply below_alloc | apply pw_below_drewN | apply below_drew1) | exact HB.out)⟩

end Go.Proofs.Ytglckkkjfcomlaa.QFixpointProofs
