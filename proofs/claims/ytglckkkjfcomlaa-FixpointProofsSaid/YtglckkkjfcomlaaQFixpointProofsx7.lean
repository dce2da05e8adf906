-- Written by gen.py (this repo's wip/), which runs the kit's print.py with more arms. Lean checks it.
import Derived.Test.YtglckkkjfcomlaaQFixpointProofsx0
import Derived.Test.YtglckkkjfcomlaaQFixpointProofsx1
namespace Go.Proofs.Ytglckkkjfcomlaa.QFixpointProofs
open Go.RowKit Go.Proofs.YtglckkkjfcomlaaW.PrintWords Go.Proofs.YtglckkkjfcomlaaW.PrintLast Go.Proofs.YtglckkkjfcomlaaW.PrintMore
attribute [local go_sem] max2_int min2_int max_two min_two max_three min_three max_four min_four   -- for this text's walks alone
set_option linter.unusedVariables false
set_option linter.unusedSimpArgs false

private theorem isEmpty_bne {α : Type} [BEq α] (l : List α) : (l != []) = !l.isEmpty := by cases l <;> rfl

/-! ### glossatorref3_Round: function 103 -/
mutual
def glossatorref3_Round.l0 : Nat → List Int → List Int → List (List (S58)) → Int → Int → Option (List Int)
 | 0, _, _, _, _, _ => none
 | k + 1, x1, x5, x16, x17, x18 => if x18 < x17 then (if 0 ≤ x18 then (if x18 < (x16.length : Int) then (glossatorref3_Round.l1 k x1 x5 x18 x16 x17 x18 (rd_L3 x16 x18) ((rd_L3 x16 x18).length : Int) 0) else (none)) else (none)) else (some x5)
def glossatorref3_Round.l1 : Nat → List Int → List Int → Int → List (List (S58)) → Int → Int → List (S58) → Int → Int → Option (List Int)
 | 0, _, _, _, _, _, _, _, _, _ => none
 | k + 1, x1, x5, x6, x16, x17, x18, x23, x24, x25 => if x25 < x24 then (if 0 ≤ x25 then (if x25 < (x23.length : Int) then (glossatorref3_Round.l2 k x1 x5 x6 ((rd_T58 x23 x25).f0) x16 x17 x18 x23 x24 x25 ((rd_T58 x23 x25).f1) (((rd_T58 x23 x25).f1).length : Int) 0) else (none)) else (none)) else (glossatorref3_Round.l0 k x1 x5 x16 x17 (wrap64 (x18 + 1)))
def glossatorref3_Round.l2 : Nat → List Int → List Int → Int → Int → List (List (S58)) → Int → Int → List (S58) → Int → Int → List Int → Int → Int → Option (List Int)
 | 0, _, _, _, _, _, _, _, _, _, _, _, _, _ => none
 | k + 1, x1, x5, x6, x10, x16, x17, x18, x23, x24, x25, x32, x33, x34 => if x34 < x33 then (if 0 ≤ x34 then (if x34 < (x32.length : Int) then (if 0 ≤ (rd x32 x34) then (if (rd x32 x34) < (x1.length : Int) then (glossatorref3_Round.l2 k x1 x5 x6 (Go.bits .and .i64 x10 (rd x1 (rd x32 x34))) x16 x17 x18 x23 x24 x25 x32 x33 (wrap64 (x34 + 1))) else (none)) else (none)) else (none)) else (none)) else (if 0 ≤ x6 then (if x6 < (x5.length : Int) then (glossatorref3_Round.l1 k x1 (x5.set (x6 : Int).toNat (Go.bits .or .i64 (rd x5 x6) x10)) x6 x16 x17 x18 x23 x24 (wrap64 (x25 + 1))) else (none)) else (none))
end
def glossatorref3_Round.f (k : Nat) (l0 : List (List (S58))) (l1 : List Int) : Option (List Int) := if 0 ≤ (l0.length : Int) then (if ((l0.length : Int) : Int).toNat ≤ 35184372088832 then (glossatorref3_Round.l0 k l1 (List.replicate ((l0.length : Int) : Int).toNat 0) l0 (l0.length : Int) 0) else (none)) else (none)
theorem glossatorref3_Round.mono_l : ∀ k, (∀ y0 y1 y2 y3 y4, LeO (glossatorref3_Round.l0 k y0 y1 y2 y3 y4) (glossatorref3_Round.l0 (k + 1) y0 y1 y2 y3 y4)) ∧ (∀ y0 y1 y2 y3 y4 y5 y6 y7 y8, LeO (glossatorref3_Round.l1 k y0 y1 y2 y3 y4 y5 y6 y7 y8) (glossatorref3_Round.l1 (k + 1) y0 y1 y2 y3 y4 y5 y6 y7 y8)) ∧ (∀ y0 y1 y2 y3 y4 y5 y6 y7 y8 y9 y10 y11 y12, LeO (glossatorref3_Round.l2 k y0 y1 y2 y3 y4 y5 y6 y7 y8 y9 y10 y11 y12) (glossatorref3_Round.l2 (k + 1) y0 y1 y2 y3 y4 y5 y6 y7 y8 y9 y10 y11 y12))
 | 0 => ⟨fun _ _ _ _ _ r h => by simp [glossatorref3_Round.l0] at h, fun _ _ _ _ _ _ _ _ _ r h => by simp [glossatorref3_Round.l1] at h, fun _ _ _ _ _ _ _ _ _ _ _ _ _ r h => by simp [glossatorref3_Round.l2] at h⟩
 | k + 1 => by
  obtain ⟨ih0, ih1, ih2⟩ := glossatorref3_Round.mono_l k
  refine ⟨?_, ?_, ?_⟩
  ·intro y0 y1 y2 y3 y4
   unfold glossatorref3_Round.l0
   repeat' first
   | (with_reducible exact ih0 _ _ _ _ _)
   | (with_reducible exact ih1 _ _ _ _ _ _ _ _ _)
   | (with_reducible exact ih2 _ _ _ _ _ _ _ _ _ _ _ _ _)
   | (with_reducible exact LeO.refl _)
   | (with_reducible exact LeO.none _)
   | (with_reducible refine LeO.ite ?_ ?_)
   | (with_reducible refine LeO.bind ?_ (fun _ => ?_))
   | exact ih0 _ _ _ _ _
   | exact ih1 _ _ _ _ _ _ _ _ _
   | exact ih2 _ _ _ _ _ _ _ _ _ _ _ _ _
   | exact LeO.none _
   | refine LeO.ite ?_ ?_
   | refine LeO.bind ?_ (fun _ => ?_)
  ·intro y0 y1 y2 y3 y4 y5 y6 y7 y8
   unfold glossatorref3_Round.l1
   repeat' first
   | (with_reducible exact ih0 _ _ _ _ _)
   | (with_reducible exact ih1 _ _ _ _ _ _ _ _ _)
   | (with_reducible exact ih2 _ _ _ _ _ _ _ _ _ _ _ _ _)
   | (with_reducible exact LeO.refl _)
   | (with_reducible exact LeO.none _)
   | (with_reducible refine LeO.ite ?_ ?_)
   | (with_reducible refine LeO.bind ?_ (fun _ => ?_))
   | exact ih0 _ _ _ _ _
   | exact ih1 _ _ _ _ _ _ _ _ _
   | exact ih2 _ _ _ _ _ _ _ _ _ _ _ _ _
   | exact LeO.none _
   | refine LeO.ite ?_ ?_
   | refine LeO.bind ?_ (fun _ => ?_)
  ·intro y0 y1 y2 y3 y4 y5 y6 y7 y8 y9 y10 y11 y12
   unfold glossatorref3_Round.l2
   repeat' first
   | (with_reducible exact ih0 _ _ _ _ _)
   | (with_reducible exact ih1 _ _ _ _ _ _ _ _ _)
   | (with_reducible exact ih2 _ _ _ _ _ _ _ _ _ _ _ _ _)
   | (with_reducible exact LeO.refl _)
   | (with_reducible exact LeO.none _)
   | (with_reducible refine LeO.ite ?_ ?_)
   | (with_reducible refine LeO.bind ?_ (fun _ => ?_))
   | exact ih0 _ _ _ _ _
   | exact ih1 _ _ _ _ _ _ _ _ _
   | exact ih2 _ _ _ _ _ _ _ _ _ _ _ _ _
   | exact LeO.none _
   | refine LeO.ite ?_ ?_
   | refine LeO.bind ?_ (fun _ => ?_)
theorem glossatorref3_Round.mono : ∀ a0 a1 k, LeO (glossatorref3_Round.f k a0 a1) (glossatorref3_Round.f (k + 1) a0 a1) := by
 intro a0 a1 k
 obtain ⟨ih0, ih1, ih2⟩ := glossatorref3_Round.mono_l k
 unfold glossatorref3_Round.f
 repeat' first
   | (with_reducible exact ih0 _ _ _ _ _)
   | (with_reducible exact ih1 _ _ _ _ _ _ _ _ _)
   | (with_reducible exact ih2 _ _ _ _ _ _ _ _ _ _ _ _ _)
   | (with_reducible exact LeO.refl _)
   | (with_reducible exact LeO.none _)
   | (with_reducible refine LeO.ite ?_ ?_)
   | (with_reducible refine LeO.bind ?_ (fun _ => ?_))
   | exact ih0 _ _ _ _ _
   | exact ih1 _ _ _ _ _ _ _ _ _
   | exact ih2 _ _ _ _ _ _ _ _ _ _ _ _ _
   | exact LeO.none _
   | refine LeO.ite ?_ ?_
   | refine LeO.bind ?_ (fun _ => ?_)
set_option maxHeartbeats 8000000 in
set_option maxRecDepth 100000 in
theorem glossatorref3_Round.calls (k : Nat) (A0 : Option Addr) (c0 : Nat) (l0 : List (List (S58))) (A1 : Option Addr) (c1 : Nat) (l1 : List Int) (r : List Int) (w : World) (hr0 : Kd.C (Kd.slice 58 k58) w A0 l0.length l0) (hc0 : l0.length ≤ c0) (hr1 : Kd.C (Kd.int .i64) w A1 l1.length l1) (hc1 : l1.length ≤ c1) (h : glossatorref3_Round.f k l0 l1 = some r) :
  Calls Try.prog 103 #[.slice A0 l0.length c0, .slice A1 l1.length c1] w fun e w' => ∃ v0_ : Value, e = .returned (v0_) ∧ Kd.R (Kd.int .i64) 3 w' w.heap.size (fun _ => True) v0_ r ∧ Below w.heap.size w w' := by
 have hu58 := Try.underlying58
 have HR0 := Aside0.mk hr0
 have HC0 := Aside0.mk hc0
 clear hr0 hc0
 have HR1 := Aside0.mk hr1
 have HC1 := Aside0.mk hc1
 clear hr1 hc1
 have HB := Aside0.mk (Below.refl w.heap.size w)
 have H : (if 0 ≤ (l0.length : Int) then (if ((l0.length : Int) : Int).toNat ≤ 35184372088832 then (glossatorref3_Round.l0 k l1 (List.replicate ((l0.length : Int) : Int).toNat 0) l0 (l0.length : Int) 0) else (none)) else (none)) = some r := h
 clear h
 by_cases c3 : 0 ≤ (l0.length : Int)
 ·rw [if_pos c3] at H
  have c3b0 := eq_true c3
  have c3b1 : decide (0 ≤ (l0.length : Int)) = true := decide_eq_true c3
  clear c3
  by_cases c4 : ((l0.length : Int) : Int).toNat ≤ 35184372088832
  ·rw [if_pos c4] at H
   have c4b0 := eq_true c4
   have c4b1 : decide (((l0.length : Int) : Int).toNat ≤ 35184372088832) = true := decide_eq_true c4
   clear c4
   obtain ⟨y211, hy211⟩ : ∃ y_ : List Int, y_ = (List.replicate ((l0.length : Int) : Int).toNat 0) := ⟨_, rfl⟩
   replace H : (glossatorref3_Round.l0 k l1 y211 l0 (l0.length : Int) 0) = some r := by first | (rw [hy211]; with_reducible exact H) | (have H2_ := (Option.bind_some _ _).symm.trans H; rw [hy211]; with_reducible exact H2_) | (have H2_ := (Option.bind_some _ _).symm.trans H; with_reducible exact H2_) | with_reducible exact H | (rw [hy211]; exact H) | exact H
   have Ny211 := Aside0.mk hy211
   clear hy211
   have H' := Aside0.mk H
   clear H
   go_enter Try.func103, Try.ntmps103
   go_wp2_with (first | ((with_reducible refine gate_dst (N := 15) rfl ?_); refine Kd.R_make (Kd.int .i64) _ 3 rfl (N := 15) rfl 29 _ _ rfl (l0.length : Int) rfl rfl Try.underlying29 (.int .i64 0) 8 info3 rfl (by decide) (by omega) 0 (ok := fun _ => True) (okp := fun _ => True) rfl (fun _ hk => hk) trivial (of_decide_eq_true (by first | (with_reducible assumption) | assumption)) (Nat.le_trans (Nat.mul_le_mul_right _ (of_decide_eq_true (by first | (with_reducible assumption) | assumption) : (l0.length : Int).toNat ≤ 35184372088832)) (by omega)) (Below.refl _ _) (Nat.le_refl _) ?_; intro v212 w5 ho6 hb hg_ hnew_; clear hg_ hnew_; (first | rw [← Ny211.out] at ho6 | (simp only [Int.reduceToNat] at ho6; rw [← Ny211.out] at ho6)); have n0_ := Aside0.mk (Kd.R_lower ho6 (below_size (by repeat (first | (with_reducible first | exact HB.out | apply below_alloc | apply pw_below_drewN | apply below_drew1) | exact HB.out)))); have n1_ := Aside0.mk (below_step (by repeat (first | (with_reducible first | exact HB.out | apply below_alloc | apply pw_below_drewN | apply below_drew1) | exact HB.out)) hb); clear HB; have HO213 := n0_; have HB := n1_; clear n0_ n1_; clear hb ho6))
   go_loopg [18] k (fun kq v18 w' => ∃ (x5_1 : List Int) (x18_1 : Int), v18 = .int .i64 x18_1 ∧ Aside0 (glossatorref3_Round.l0 kq l1 x5_1 l0 (l0.length : Int) x18_1 = some r) ∧ Aside0 (kq ≤ k) ∧ Aside0 (Kd.R (Kd.int .i64) 3 w' w.heap.size (fun _ => True) v212 x5_1) ∧ Aside0 (Below w.heap.size w w'))
   case atStart => exact ⟨(y211), (0), (by first | rfl | (simp; done) | (simp [*]; done) | (simp [isEmpty_bne]; done)), H', ⟨Nat.le_refl _⟩, ⟨by (with_reducible repeat (first | apply Kd.R_alloc | apply Kd.R_drewN | apply Kd.R_drew)); exact HO213.out⟩, ⟨by repeat (first | (with_reducible first | exact HB.out | apply below_alloc | apply pw_below_drewN | apply below_drew1) | exact HB.out)⟩⟩
   case round =>
    clear H'
    try clear c1
    try clear p2
    try clear c3
    try clear c3b0
    try clear c3b1
    try clear c4
    try clear c4b0
    try clear c4b1
    obtain ⟨x5_1, x18_1, rfl, HA, HK1, HO_5, HB⟩ := hrel
    cases gk with
    | zero => exact absurd HA.out (by simp [glossatorref3_Round.l0])
    | succ k1 =>
     have H := HA.out
     clear HA
     simp only [glossatorref3_Round.l0] at H
     by_cases c7 : x18_1 < (l0.length : Int)
     ·rw [if_pos c7] at H
      have c7b0 : decide (x18_1 < (l0.length : Int)) = true := decide_eq_true c7
      clear c7
      by_cases c8 : 0 ≤ x18_1
      ·rw [if_pos c8] at H
       have c8b0 : decide (0 ≤ x18_1) = true := decide_eq_true c8
       clear c8
       by_cases c9 : x18_1 < (l0.length : Int)
       ·rw [if_pos c9] at H
        have c9b0 : decide (x18_1 < (l0.length : Int)) = true := decide_eq_true c9
        clear c9
        have H' := Aside0.mk H
        clear H
        have p214 : 0 ≤ (x18_1 : Int) := of_decide_eq_true (by first | (with_reducible assumption) | assumption)
        have q214 : x18_1 < (l0.length : Int) := of_decide_eq_true (by first | (with_reducible assumption) | assumption)
        obtain ⟨ad214, A214_0, c214_0, e214, hx214_0, hl214_0, hi214_0⟩ := at_L3 HR0.out x18_1 p214 q214
        cases e214
        replace hx214_0 := (HB.out.cell (World.block_lt_of_cell? w _ hx214_0)).trans hx214_0
        have HR214_0 := Aside0.mk hi214_0
        have HC214_0 := Aside0.mk hl214_0
        clear hi214_0 hl214_0
        replace p214 := eq_true p214
        replace q214 := eq_true q214
        go_wp2
        go_loopg [25] k1 (fun kq v25 w' => ∃ (x5_2 : List Int) (x25_2 : Int), v25 = .int .i64 x25_2 ∧ Aside0 (glossatorref3_Round.l1 kq l1 x5_2 x18_1 l0 (l0.length : Int) x18_1 (rd_L3 l0 x18_1) ((rd_L3 l0 x18_1).length : Int) x25_2 = some r) ∧ Aside0 (kq ≤ k1) ∧ Aside0 (Kd.R (Kd.int .i64) 3 w' w.heap.size (fun _ => True) v212 x5_2) ∧ Aside0 (Below w.heap.size w w'))
        case atStart => exact ⟨(x5_1), (0), (by first | rfl | (simp; done) | (simp [*]; done) | (simp [isEmpty_bne]; done)), H', ⟨Nat.le_refl _⟩, ⟨by (with_reducible repeat (first | apply Kd.R_alloc | apply Kd.R_drewN | apply Kd.R_drew)); exact HO_5.out⟩, ⟨by repeat (first | (with_reducible first | exact HB.out | apply below_alloc | apply pw_below_drewN | apply below_drew1) | exact HB.out)⟩⟩
        case round =>
         clear H'
         try clear c1
         try clear c2
         try clear p2
         try clear q2
         try clear hx2
         try clear c3
         try clear c3b0
         try clear c3b1
         try clear c4
         try clear c4b0
         try clear c4b1
         try clear c7
         try clear c7b0
         try clear c8
         try clear c8b0
         try clear c9
         try clear c9b0
         try clear hx214_0
         try clear p2
         try clear p214
         try clear q214
         obtain ⟨x5_2, x25_2, rfl, HA, HK2, HO_5, HB⟩ := hrel
         cases gk with
         | zero => exact absurd HA.out (by simp [glossatorref3_Round.l1])
         | succ k2 =>
          have H := HA.out
          clear HA
          simp only [glossatorref3_Round.l1] at H
          by_cases c10 : x25_2 < ((rd_L3 l0 x18_1).length : Int)
          ·rw [if_pos c10] at H
           have c10b0 : decide (x25_2 < ((rd_L3 l0 x18_1).length : Int)) = true := decide_eq_true c10
           clear c10
           by_cases c11 : 0 ≤ x25_2
           ·rw [if_pos c11] at H
            have c11b0 : decide (0 ≤ x25_2) = true := decide_eq_true c11
            clear c11
            by_cases c12 : x25_2 < ((rd_L3 l0 x18_1).length : Int)
            ·rw [if_pos c12] at H
             have c12b0 : decide (x25_2 < ((rd_L3 l0 x18_1).length : Int)) = true := decide_eq_true c12
             clear c12
             have H' := Aside0.mk H
             clear H
             have p215 : 0 ≤ (x25_2 : Int) := of_decide_eq_true (by first | (with_reducible assumption) | assumption)
             have q215 : x25_2 < ((rd_L3 l0 x18_1).length : Int) := of_decide_eq_true (by first | (with_reducible assumption) | assumption)
             obtain ⟨ad215, A215_1, c215_1, e215, hx215_0, hx215_1, hl215_1, hi215_1⟩ := at_T58 HR214_0.out x25_2 p215 q215
             cases e215
             replace hx215_0 := (HB.out.cell (World.block_lt_of_cell? w _ hx215_0)).trans hx215_0
             replace hx215_1 := (HB.out.cell (World.block_lt_of_cell? w _ hx215_1)).trans hx215_1
             have HR215_1 := Aside0.mk hi215_1
             have HC215_1 := Aside0.mk hl215_1
             clear hi215_1 hl215_1
             replace p215 := eq_true p215
             replace q215 := eq_true q215
             go_wp2_with (first | ((with_reducible refine gate_dst (N := 9) rfl ?_); refine box_event ?hg (N := 9) ?hd (cs := #[.int .i64 0, .slice none 0 0]) (t := 58) ?hr ?_; (case hd => rfl); (case hg => rfl); (case hr => first | (go_simp; done) | (go_simp; rfl)); intro gb216 hg w13 hbox hb; have n0_ := Aside0.mk (Kd.R_below (by (with_reducible repeat (first | apply Kd.R_alloc | apply Kd.R_drewN | apply Kd.R_drew)); exact HO_5.out) hb); have n1_ := Aside0.mk (below_step (by repeat (first | (with_reducible first | exact HB.out | apply below_alloc | apply pw_below_drewN | apply below_drew1) | exact HB.out)) hb); have n2_ := Aside0.mk (hbox); have n3_ := Aside0.mk ((by rw [hg]; exact (below_size (by repeat (first | (with_reducible first | exact HB.out | apply below_alloc | apply pw_below_drewN | apply below_drew1) | exact HB.out))) : w.heap.size ≤ gb216)); have n4_ := Aside0.mk ((by rw [hg]; exact (below_size (by repeat (first | (with_reducible first | exact HB.out | apply below_alloc | apply pw_below_drewN | apply below_drew1) | exact HB.out))) : w.heap.size ≤ gb216)); clear HO_5; clear HB; have HO_5 := n0_; have HB := n1_; have BK216 := n2_; have GW216 := n3_; have GE216 := n4_; clear n0_ n1_ n2_ n3_ n4_; clear hb hbox hg; have hcz14_0 : w13.cell? ⟨gb216, 0, none⟩ = some (.int .i64 0) := (blk_cell BK216.out 0).trans rfl; have hcz14_1 : w13.cell? ⟨gb216, 1, none⟩ = some (.slice none 0 0) := (blk_cell BK216.out 1).trans rfl; have hfz14_0 := blk_frozen BK216.out 0; have hfz14_1 := blk_frozen BK216.out 1))
             go_loopg [10, 34] k2 (fun kq v10 v34 w' => ∃ (x10_3 : Int) (x34_3 : Int), v10 = .int .i64 x10_3 ∧ v34 = .int .i64 x34_3 ∧ Aside0 (glossatorref3_Round.l2 kq l1 x5_2 x18_1 x10_3 l0 (l0.length : Int) x18_1 (rd_L3 l0 x18_1) ((rd_L3 l0 x18_1).length : Int) x25_2 ((rd_T58 (rd_L3 l0 x18_1) x25_2).f1) (((rd_T58 (rd_L3 l0 x18_1) x25_2).f1).length : Int) x34_3 = some r) ∧ Aside0 (kq ≤ k2) ∧ Aside0 (Kd.R (Kd.int .i64) 3 w' w.heap.size (fun _ => True) v212 x5_2) ∧ Aside0 (w'.heap[gb216]? = some (.cells #[.int .i64 ((rd_T58 (rd_L3 l0 x18_1) x25_2).f0), (.slice A215_1 ((rd_T58 (rd_L3 l0 x18_1) x25_2).f1).length c215_1)] 58 (0, 0))) ∧ Aside0 (Below w.heap.size w w'))
             case atStart => exact ⟨((rd_T58 (rd_L3 l0 x18_1) x25_2).f0), (0), (by first | rfl | (simp; done) | (simp [*]; done) | (simp [isEmpty_bne]; done)), (by first | rfl | (simp; done) | (simp [*]; done) | (simp [isEmpty_bne]; done)), H', ⟨Nat.le_refl _⟩, ⟨by (with_reducible repeat (first | apply Kd.R_alloc | apply Kd.R_drewN | apply Kd.R_drew)); exact Kd.R_mono (Kd.R_far (p := ⟨gb216, 1, none⟩) (Kd.R_far (p := ⟨gb216, 0, none⟩) (Kd.R_types HO_5.out BK216.out (by decide)) (fun _ hk => hk.2) (.int .i64 ((rd_T58 (rd_L3 l0 x18_1) x25_2).f0))) (fun _ hk => hk.2) (.slice A215_1 ((rd_T58 (rd_L3 l0 x18_1) x25_2).f1).length c215_1)) (fun _ hk => trivial)⟩, ⟨by (with_reducible repeat (first | refine blk_drewN ?_ _ | refine blk_drew ?_ | refine blk_alloc ?_ _)); refine blk_put (cs := #[.int .i64 ((rd_T58 (rd_L3 l0 x18_1) x25_2).f0), .slice none 0 0]) ?_ 1 _ rfl; (with_reducible repeat (first | refine blk_drewN ?_ _ | refine blk_drew ?_ | refine blk_alloc ?_ _)); refine blk_put (cs := #[.int .i64 0, .slice none 0 0]) ?_ 0 _ rfl; (with_reducible repeat (first | refine blk_drewN ?_ _ | refine blk_drew ?_ | refine blk_alloc ?_ _)); exact BK216.out⟩, ⟨by repeat (first | (with_reducible first | exact HB.out | apply below_alloc | apply pw_below_drewN | apply below_drew1 | refine below_set ?_ GE216.out) | exact HB.out)⟩⟩
             case round =>
              clear H'
              try clear c1
              try clear c2
              try clear p2
              try clear q2
              try clear hx2
              try clear c3
              try clear c3b0
              try clear c3b1
              try clear c4
              try clear c4b0
              try clear c4b1
              try clear c7
              try clear c7b0
              try clear c8
              try clear c8b0
              try clear c9
              try clear c9b0
              try clear c10
              try clear c10b0
              try clear c11
              try clear c11b0
              try clear c12
              try clear c12b0
              try clear hcz14_0
              try clear hcz14_1
              try clear hfz14_0
              try clear hfz14_1
              try clear hx214_0
              try clear hx215_0
              try clear hx215_1
              try clear p2
              try clear p214
              try clear p215
              try clear q2
              try clear q214
              try clear q215
              obtain ⟨x10_3, x34_3, rfl, rfl, HA, HK3, HO_5, BK216, HB⟩ := hrel
              cases gk with
              | zero => exact absurd HA.out (by simp [glossatorref3_Round.l2])
              | succ k3 =>
               have H := HA.out
               clear HA
               simp only [glossatorref3_Round.l2] at H
               by_cases c15 : x34_3 < (((rd_T58 (rd_L3 l0 x18_1) x25_2).f1).length : Int)
               ·rw [if_pos c15] at H
                have c15b0 : decide (x34_3 < (((rd_T58 (rd_L3 l0 x18_1) x25_2).f1).length : Int)) = true := decide_eq_true c15
                clear c15
                by_cases c16 : 0 ≤ x34_3
                ·rw [if_pos c16] at H
                 have c16b0 : decide (0 ≤ x34_3) = true := decide_eq_true c16
                 clear c16
                 by_cases c17 : x34_3 < (((rd_T58 (rd_L3 l0 x18_1) x25_2).f1).length : Int)
                 ·rw [if_pos c17] at H
                  have c17b0 : decide (x34_3 < (((rd_T58 (rd_L3 l0 x18_1) x25_2).f1).length : Int)) = true := decide_eq_true c17
                  clear c17
                  by_cases c18 : 0 ≤ (rd ((rd_T58 (rd_L3 l0 x18_1) x25_2).f1) x34_3)
                  ·rw [if_pos c18] at H
                   have c18b0 : decide (0 ≤ (rd ((rd_T58 (rd_L3 l0 x18_1) x25_2).f1) x34_3)) = true := decide_eq_true c18
                   clear c18
                   by_cases c19 : (rd ((rd_T58 (rd_L3 l0 x18_1) x25_2).f1) x34_3) < (l1.length : Int)
                   ·rw [if_pos c19] at H
                    have c19b0 : decide ((rd ((rd_T58 (rd_L3 l0 x18_1) x25_2).f1) x34_3) < (l1.length : Int)) = true := decide_eq_true c19
                    clear c19
                    have H' := Aside0.mk H
                    clear H
                    have p217 : 0 ≤ (x34_3 : Int) := of_decide_eq_true (by first | (with_reducible assumption) | assumption)
                    have q217 : x34_3 < (((rd_T58 (rd_L3 l0 x18_1) x25_2).f1).length : Int) := of_decide_eq_true (by first | (with_reducible assumption) | assumption)
                    obtain ⟨ad217, e217, hx217_0⟩ := Kd.at_int HR215_1.out x34_3 p217 q217
                    cases e217
                    replace hx217_0 := (HB.out.cell (World.block_lt_of_cell? w _ hx217_0)).trans hx217_0
                    replace p217 := eq_true p217
                    replace q217 := eq_true q217
                    have p218 : 0 ≤ ((rd ((rd_T58 (rd_L3 l0 x18_1) x25_2).f1) x34_3) : Int) := of_decide_eq_true (by first | (with_reducible assumption) | assumption)
                    have q218 : (rd ((rd_T58 (rd_L3 l0 x18_1) x25_2).f1) x34_3) < (l1.length : Int) := of_decide_eq_true (by first | (with_reducible assumption) | assumption)
                    obtain ⟨ad218, e218, hx218_0⟩ := Kd.at_int HR1.out (rd ((rd_T58 (rd_L3 l0 x18_1) x25_2).f1) x34_3) p218 q218
                    cases e218
                    replace hx218_0 := (HB.out.cell (World.block_lt_of_cell? w _ hx218_0)).trans hx218_0
                    replace p218 := eq_true p218
                    replace q218 := eq_true q218
                    go_wp2
                    go_roundg k3
                    case measure => have := HK1.out; have := HK2.out; have := HK3.out; omega
                    case rel => exact ⟨(Go.bits .and .i64 x10_3 (rd l1 (rd ((rd_T58 (rd_L3 l0 x18_1) x25_2).f1) x34_3))), (wrap64 (x34_3 + 1)), (by first | rfl | (simp; done) | (simp [*]; done) | (simp [isEmpty_bne]; done)), (by first | rfl | (simp; done) | (simp [*]; done) | (simp [isEmpty_bne]; done)), H', ⟨by have := HK1.out; have := HK2.out; have := HK3.out; omega⟩, ⟨by (with_reducible repeat (first | apply Kd.R_alloc | apply Kd.R_drewN | apply Kd.R_drew)); exact HO_5.out⟩, ⟨by (with_reducible repeat (first | refine blk_drewN ?_ _ | refine blk_drew ?_ | refine blk_alloc ?_ _)); exact BK216.out⟩, ⟨by repeat (first | (with_reducible first | exact HB.out | apply below_alloc | apply pw_below_drewN | apply below_drew1 | refine below_set ?_ GE216.out) | exact HB.out)⟩⟩
                   ·rw [if_neg c19] at H
                    exact absurd H (by simp)
                  ·rw [if_neg c18] at H
                   exact absurd H (by simp)
                 ·rw [if_neg c17] at H
                  exact absurd H (by simp)
                ·rw [if_neg c16] at H
                 exact absurd H (by simp)
               ·rw [if_neg c15] at H
                have c15b0 : decide (x34_3 < (((rd_T58 (rd_L3 l0 x18_1) x25_2).f1).length : Int)) = false := decide_eq_false c15
                clear c15
                by_cases c20 : 0 ≤ x18_1
                ·rw [if_pos c20] at H
                 have c20b0 : decide (0 ≤ x18_1) = true := decide_eq_true c20
                 clear c20
                 by_cases c21 : x18_1 < (x5_2.length : Int)
                 ·rw [if_pos c21] at H
                  have c21b0 : decide (x18_1 < (x5_2.length : Int)) = true := decide_eq_true c21
                  clear c21
                  obtain ⟨y220, hy220⟩ : ∃ y_ : List Int, y_ = (x5_2.set (x18_1 : Int).toNat (Go.bits .or .i64 (rd x5_2 x18_1) x10_3)) := ⟨_, rfl⟩
                  replace H : (glossatorref3_Round.l1 k3 l1 y220 x18_1 l0 (l0.length : Int) x18_1 (rd_L3 l0 x18_1) ((rd_L3 l0 x18_1).length : Int) (wrap64 (x25_2 + 1))) = some r := by first | (rw [hy220]; with_reducible exact H) | (have H2_ := (Option.bind_some _ _).symm.trans H; rw [hy220]; with_reducible exact H2_) | (have H2_ := (Option.bind_some _ _).symm.trans H; with_reducible exact H2_) | with_reducible exact H | (rw [hy220]; exact H) | exact H
                  have Ny220 := Aside0.mk hy220
                  clear hy220
                  have H' := Aside0.mk H
                  clear H
                  obtain ⟨Ao23, co23, eo23⟩ := Kd.R_slice HO_5.out
                  subst eo23
                  have p219 : 0 ≤ (x18_1 : Int) := of_decide_eq_true (by first | (with_reducible assumption) | assumption)
                  have q219 : x18_1 < (x5_2.length : Int) := of_decide_eq_true (by first | (with_reducible assumption) | assumption)
                  obtain ⟨ad219, e219, hx219_0⟩ := Kd.at_int (Kd.R_reads' HO_5.out).2.2 x18_1 p219 q219
                  cases e219
                  replace p219 := eq_true p219
                  replace q219 := eq_true q219
                  have p22 : 0 ≤ (x18_1 : Int) := of_decide_eq_true (by first | (with_reducible assumption) | assumption)
                  have q22 : (x18_1 : Int) < ((x5_2.length : Int) : Int) := of_decide_eq_true (by first | (with_reducible assumption) | assumption)
                  obtain ⟨go22, co22, eo22, gb22, gl22, cl22, HG22⟩ := Kd.R_form HO_5.out (by omega)
                  (first | cases eo22 | (injection eo22 with ea_ en_ ec_; (first | subst ea_ | (injection ea_ with ea_; subst ea_)); subst ec_; clear en_))
                  have GB22 := Aside0.mk gb22
                  have GG22 := Aside0.mk HG22
                  clear gb22 gl22 HG22
                  (first | simp only [add_plain] at hx219_0 | skip)
                  obtain ⟨hx22_0, hf22_0⟩ := Kd.R_celln 0 HO_5.out (x18_1 : Int) p22 q22
                  replace p22 := eq_true p22
                  replace q22 := eq_true q22
                  have HP24 := Kd.R_putg HO_5.out (x18_1 : Int) (Go.bits .or .i64 (rd x5_2 x18_1) x10_3)
                  go_wp2_with (first | ((with_reducible refine gate_store (t := 3) (p := 53) rfl ?_); refine store_event (t := 3) (p := 53) (v := ?vo_w25) (w1 := (wr.setCell ⟨go22, (x18_1 : Int).toNat, none⟩ (.int .i64 (Go.bits .or .i64 (rd x5_2 x18_1) x10_3)))) ?hg ?ho ?hn ?hr ?_; (case ho => rfl); (case hg => rfl); (case hn => rfl); (case hr => first | (go_simp; done) | (go_simp; rfl)); intro w25 hw; have hg : wr.grownBy w25 (some go22) := (by rw [hw]; exact HP24.2); have hp_ : Kd.R (Kd.int .i64) 3 w25 w.heap.size (fun _ => True) (.slice (some ⟨go22, 0, none⟩) x5_2.length co23) y220 := (by rw [hw, Ny220.out]; exact HP24.1); clear HP24; have n0_ := Aside0.mk (hp_); have n1_ := Aside0.mk (blk_grown (g := gb216) (o := .cells #[.int .i64 ((rd_T58 (rd_L3 l0 x18_1) x25_2).f0), .slice A215_1 ((rd_T58 (rd_L3 l0 x18_1) x25_2).f1).length c215_1] 58 (0, 0)) (by (with_reducible repeat (first | refine blk_drewN ?_ _ | refine blk_drew ?_ | refine blk_alloc ?_ _)); exact BK216.out) hg (Kd.R_ne HO_5.out BK216.out (by decide))); have n2_ := Aside0.mk ((by rw [hw]; exact below_set (HB.out) GB22.out : Below w.heap.size w w25)); clear HO_5; clear BK216; clear HB; have HO_5 := n0_; have BK216 := n1_; have HB := n2_; clear n0_ n1_ n2_; clear hg hw hp_))
                  go_roundg k3
                  case measure => have := HK1.out; have := HK2.out; have := HK3.out; omega
                  case rel => exact ⟨(y220), (wrap64 (x25_2 + 1)), (by first | rfl | (simp; done) | (simp [*]; done) | (simp [isEmpty_bne]; done)), H', ⟨by have := HK1.out; have := HK2.out; have := HK3.out; omega⟩, ⟨by (with_reducible repeat (first | apply Kd.R_alloc | apply Kd.R_drewN | apply Kd.R_drew)); exact HO_5.out⟩, ⟨by repeat (first | (with_reducible first | exact HB.out | apply below_alloc | apply pw_below_drewN | apply below_drew1 | refine below_set ?_ GE216.out) | exact HB.out)⟩⟩
                 ·rw [if_neg c21] at H
                  exact absurd H (by simp)
                ·rw [if_neg c20] at H
                 exact absurd H (by simp)
            ·rw [if_neg c12] at H
             exact absurd H (by simp)
           ·rw [if_neg c11] at H
            exact absurd H (by simp)
          ·rw [if_neg c10] at H
           have c10b0 : decide (x25_2 < ((rd_L3 l0 x18_1).length : Int)) = false := decide_eq_false c10
           clear c10
           have H' := Aside0.mk H
           clear H
           go_wp2
           go_roundg k2
           case measure => have := HK1.out; have := HK2.out; omega
           case rel => exact ⟨(x5_2), (wrap64 (x18_1 + 1)), (by first | rfl | (simp; done) | (simp [*]; done) | (simp [isEmpty_bne]; done)), H', ⟨by have := HK1.out; have := HK2.out; omega⟩, ⟨by (with_reducible repeat (first | apply Kd.R_alloc | apply Kd.R_drewN | apply Kd.R_drew)); exact HO_5.out⟩, ⟨by repeat (first | (with_reducible first | exact HB.out | apply below_alloc | apply pw_below_drewN | apply below_drew1) | exact HB.out)⟩⟩
       ·rw [if_neg c9] at H
        exact absurd H (by simp)
      ·rw [if_neg c8] at H
       exact absurd H (by simp)
     ·rw [if_neg c7] at H
      have c7b0 : decide (x18_1 < (l0.length : Int)) = false := decide_eq_false c7
      clear c7
      obtain rfl := Option.some.inj H
      go_wp2
      go_ret
      exact ⟨_, by first | rfl | (simp [errW_none, errW_some] <;> rfl) | (simp [*, errW_none, errW_some] <;> rfl), by (with_reducible repeat (first | apply Kd.R_alloc | apply Kd.R_drewN | apply Kd.R_drew)); exact HO_5.out, by repeat (first | (with_reducible first | exact HB.out | apply below_alloc | apply pw_below_drewN | apply below_drew1) | exact HB.out)⟩
  ·rw [if_neg c4] at H
   exact absurd H (by simp)
 ·rw [if_neg c3] at H
  exact absurd H (by simp)

/-! ### glossatorref3_Kleene: function 32 -/
def glossatorref3_Kleene.l0 : Nat → List (List (S58)) → List Int → Int → Option (List Int × Int)
 | 0, _, _, _ => none
 | k + 1, x0, x4, x5 => (glossatorref3_Round.f k x0 x4).bind fun t224 => ((glossatorref3_Equal_int.f k t224 x4).bind fun t227 => (if t227 = true then (some (x4, x5)) else (glossatorref3_Kleene.l0 k x0 t224 (wrap64 (x5 + 1)))))
def glossatorref3_Kleene.f (k : Nat) (l0 : List (List (S58))) : Option (List Int × Int) := if 0 ≤ (l0.length : Int) then (if ((l0.length : Int) : Int).toNat ≤ 35184372088832 then (glossatorref3_Kleene.l0 k l0 (List.replicate ((l0.length : Int) : Int).toNat 0) 0) else (none)) else (none)
theorem glossatorref3_Kleene.mono_l : ∀ k, (∀ y0 y1 y2, LeO (glossatorref3_Kleene.l0 k y0 y1 y2) (glossatorref3_Kleene.l0 (k + 1) y0 y1 y2))
 | 0 => fun _ _ _ r h => by simp [glossatorref3_Kleene.l0] at h
 | k + 1 => by
  have ih0 := glossatorref3_Kleene.mono_l k
  ·intro y0 y1 y2
   unfold glossatorref3_Kleene.l0
   repeat' first
   | (with_reducible exact ih0 _ _ _)
   | (with_reducible exact glossatorref3_Equal_int.mono _ _ _)
   | (with_reducible exact glossatorref3_Round.mono _ _ _)
   | (with_reducible exact LeO.refl _)
   | (with_reducible exact LeO.none _)
   | (with_reducible refine LeO.ite ?_ ?_)
   | (with_reducible refine LeO.bind ?_ (fun _ => ?_))
   | exact ih0 _ _ _
   | exact glossatorref3_Equal_int.mono _ _ _
   | exact glossatorref3_Round.mono _ _ _
   | exact LeO.none _
   | refine LeO.ite ?_ ?_
   | refine LeO.bind ?_ (fun _ => ?_)
theorem glossatorref3_Kleene.mono : ∀ a0 k, LeO (glossatorref3_Kleene.f k a0) (glossatorref3_Kleene.f (k + 1) a0) := by
 intro a0 k
 have ih0 := glossatorref3_Kleene.mono_l k
 unfold glossatorref3_Kleene.f
 repeat' first
   | (with_reducible exact ih0 _ _ _)
   | (with_reducible exact glossatorref3_Equal_int.mono _ _ _)
   | (with_reducible exact glossatorref3_Round.mono _ _ _)
   | (with_reducible exact LeO.refl _)
   | (with_reducible exact LeO.none _)
   | (with_reducible refine LeO.ite ?_ ?_)
   | (with_reducible refine LeO.bind ?_ (fun _ => ?_))
   | exact ih0 _ _ _
   | exact glossatorref3_Equal_int.mono _ _ _
   | exact glossatorref3_Round.mono _ _ _
   | exact LeO.none _
   | refine LeO.ite ?_ ?_
   | refine LeO.bind ?_ (fun _ => ?_)
set_option maxHeartbeats 8000000 in
set_option maxRecDepth 100000 in
theorem glossatorref3_Kleene.calls (k : Nat) (A0 : Option Addr) (c0 : Nat) (l0 : List (List (S58))) (r1 : List Int) (r2 : Int) (w : World) (hr0 : Kd.C (Kd.slice 58 k58) w A0 l0.length l0) (hc0 : l0.length ≤ c0) (h : glossatorref3_Kleene.f k l0 = some (r1, r2)) :
  Calls Try.prog 32 #[.slice A0 l0.length c0] w fun e w' => ∃ v0_ : Value, e = .returned (.tuple #[v0_, .int .i64 r2]) ∧ Kd.R (Kd.int .i64) 3 w' w.heap.size (fun _ => True) v0_ r1 ∧ Below w.heap.size w w' := by
 have HR0 := Aside0.mk hr0
 have HC0 := Aside0.mk hc0
 clear hr0 hc0
 have HB := Aside0.mk (Below.refl w.heap.size w)
 have H : (if 0 ≤ (l0.length : Int) then (if ((l0.length : Int) : Int).toNat ≤ 35184372088832 then (glossatorref3_Kleene.l0 k l0 (List.replicate ((l0.length : Int) : Int).toNat 0) 0) else (none)) else (none)) = some (r1, r2) := h
 clear h
 by_cases c2 : 0 ≤ (l0.length : Int)
 ·rw [if_pos c2] at H
  have c2b0 := eq_true c2
  have c2b1 : decide (0 ≤ (l0.length : Int)) = true := decide_eq_true c2
  clear c2
  by_cases c3 : ((l0.length : Int) : Int).toNat ≤ 35184372088832
  ·rw [if_pos c3] at H
   have c3b0 := eq_true c3
   have c3b1 : decide (((l0.length : Int) : Int).toNat ≤ 35184372088832) = true := decide_eq_true c3
   clear c3
   obtain ⟨y221, hy221⟩ : ∃ y_ : List Int, y_ = (List.replicate ((l0.length : Int) : Int).toNat 0) := ⟨_, rfl⟩
   replace H : (glossatorref3_Kleene.l0 k l0 y221 0) = some (r1, r2) := by first | (rw [hy221]; with_reducible exact H) | (have H2_ := (Option.bind_some _ _).symm.trans H; rw [hy221]; with_reducible exact H2_) | (have H2_ := (Option.bind_some _ _).symm.trans H; with_reducible exact H2_) | with_reducible exact H | (rw [hy221]; exact H) | exact H
   have Ny221 := Aside0.mk hy221
   clear hy221
   have H' := Aside0.mk H
   clear H
   go_enter Try.func32, Try.ntmps32
   go_wp2_with (first | ((with_reducible refine gate_dst (N := 9) rfl ?_); refine Kd.R_make (Kd.int .i64) _ 3 rfl (N := 9) rfl 29 _ _ rfl (l0.length : Int) rfl rfl Try.underlying29 (.int .i64 0) 8 info3 rfl (by decide) (by omega) 0 (ok := fun _ => True) (okp := fun _ => True) rfl (fun _ hk => hk) trivial (of_decide_eq_true (by first | (with_reducible assumption) | assumption)) (Nat.le_trans (Nat.mul_le_mul_right _ (of_decide_eq_true (by first | (with_reducible assumption) | assumption) : (l0.length : Int).toNat ≤ 35184372088832)) (by omega)) (Below.refl _ _) (Nat.le_refl _) ?_; intro v222 w4 ho5 hb hg_ hnew_; clear hg_ hnew_; (first | rw [← Ny221.out] at ho5 | (simp only [Int.reduceToNat] at ho5; rw [← Ny221.out] at ho5)); have n0_ := Aside0.mk (Kd.R_lower ho5 (below_size (by repeat (first | (with_reducible first | exact HB.out | apply below_alloc | apply pw_below_drewN | apply below_drew1) | exact HB.out)))); have n1_ := Aside0.mk (below_step (by repeat (first | (with_reducible first | exact HB.out | apply below_alloc | apply pw_below_drewN | apply below_drew1) | exact HB.out)) hb); clear HB; have HO223 := n0_; have HB := n1_; clear n0_ n1_; clear hb ho5))
   go_loopg [4, 5] k (fun kq v4 v5 w' => ∃ (x4_1 : List Int) (x5_1 : Int), v5 = .int .i64 x5_1 ∧ Aside0 (glossatorref3_Kleene.l0 kq l0 x4_1 x5_1 = some (r1, r2)) ∧ Aside0 (kq ≤ k) ∧ Aside0 (Kd.R (Kd.int .i64) 3 w' w.heap.size (fun _ => True) v4 x4_1) ∧ Aside0 (Below w.heap.size w w'))
   case atStart => exact ⟨(y221), (0), (by first | rfl | (simp; done) | (simp [*]; done) | (simp [isEmpty_bne]; done)), H', ⟨Nat.le_refl _⟩, ⟨by (with_reducible repeat (first | apply Kd.R_alloc | apply Kd.R_drewN | apply Kd.R_drew)); exact HO223.out⟩, ⟨by repeat (first | (with_reducible first | exact HB.out | apply below_alloc | apply pw_below_drewN | apply below_drew1) | exact HB.out)⟩⟩
   case round =>
    clear H'
    try clear c2
    try clear c2b0
    try clear c2b1
    try clear p2
    try clear c3
    try clear c3b0
    try clear c3b1
    obtain ⟨x4_1, x5_1, rfl, HA, HK1, HO_4, HB⟩ := hrel
    cases gk with
    | zero => exact absurd HA.out (by simp [glossatorref3_Kleene.l0])
    | succ k1 =>
     have H := HA.out
     clear HA
     simp only [glossatorref3_Kleene.l0] at H
     replace H := Option.bind_eq_some_iff.mp H
     obtain ⟨t224, A60, H⟩ := H
     replace H : ((glossatorref3_Equal_int.f k1 t224 x4_1).bind fun t227 => (if t227 = true then (some (x4_1, x5_1)) else (glossatorref3_Kleene.l0 k1 l0 t224 (wrap64 (x5_1 + 1))))) = some (r1, r2) := H
     have A6 := Aside0.mk A60
     clear A60
     replace H := Option.bind_eq_some_iff.mp H
     obtain ⟨t227, A70, H⟩ := H
     replace H : (if t227 = true then (some (x4_1, x5_1)) else (glossatorref3_Kleene.l0 k1 l0 t224 (wrap64 (x5_1 + 1)))) = some (r1, r2) := H
     have A7 := Aside0.mk A70
     clear A70
     by_cases c8 : t227 = true
     ·subst c8
      have H1 : (some (x4_1, x5_1)) = some (r1, r2) := by rw [if_pos rfl] at H; exact H
      clear H
      have H := H1
      clear H1
      simp only [Option.some.injEq, Prod.mk.injEq] at H
      obtain ⟨rfl, rfl⟩ := H
      obtain ⟨Ao9, co9, eo9⟩ := Kd.R_slice HO_4.out
      subst eo9
      go_wp2_with (first | ((with_reducible refine gate_callee (f := 103) rfl ?_); refine goesL_ (some 14) rfl rfl Try.func103 (by kernel_rfl) rfl #[.slice A0 l0.length c0, .slice Ao9 x4_1.length co9] rfl (by (try simp only [List.map_toArray, List.map_cons, List.map_nil]); first | done | rfl | (simp only [List.length_drop, List.length_take]; rfl)) ?_; (with_reducible refine (glossatorref3_Round.calls k1 _ _ l0 _ _ x4_1 t224 _ ?side1 ?side2 ?side3 ?side4 A6.out).mono ?_); (case side1 => repeat (first | exact (Kd.C_below HR0.out HB.out) | (with_reducible refine Kd.C_alloc ?_ _) | (with_reducible refine Kd.C_drewN ?_ _) | (with_reducible refine Kd.C_drew ?_))); (case side2 => exact HC0.out); (case side3 => repeat (first | exact (Kd.R_reads' HO_4.out).2.2 | (with_reducible refine Kd.C_alloc ?_ _) | (with_reducible refine Kd.C_drewN ?_ _) | (with_reducible refine Kd.C_drew ?_))); (case side4 => exact (Kd.R_reads' HO_4.out).2.1); rintro e w10 ⟨v225, rfl, ho0, hb⟩; refine ⟨_, rfl, ?_⟩; have n0_ := Aside0.mk (Kd.R_elder' (by (with_reducible repeat (first | apply Kd.R_alloc | apply Kd.R_drewN | apply Kd.R_drew)); exact HO_4.out) (Kd.R_base ho0) hb); have n1_ := Aside0.mk (Kd.R_lower (Kd.R_new' ho0 (Kd.R_lt (by (with_reducible repeat (first | apply Kd.R_alloc | apply Kd.R_drewN | apply Kd.R_drew)); exact HO_4.out))) (below_size (by repeat (first | (with_reducible first | exact HB.out | apply below_alloc | apply pw_below_drewN | apply below_drew1) | exact HB.out)))); have n2_ := Aside0.mk (below_step (by repeat (first | (with_reducible first | exact HB.out | apply below_alloc | apply pw_below_drewN | apply below_drew1) | exact HB.out)) hb); clear HO_4; clear HB; have HO_4 := n0_; have HO226 := n1_; have HB := n2_; clear n0_ n1_ n2_; (try clear hb); (try clear hb2); (try clear hk); (try clear hi); (try clear ho0); obtain ⟨Ao11, co11, eo11⟩ := Kd.R_slice HO226.out; subst eo11) | ((with_reducible refine gate_callee (f := 35) rfl ?_); refine goesL_ (some 17) rfl rfl Try.func35 (by kernel_rfl) rfl #[.slice Ao11 t224.length co11, .slice Ao9 x4_1.length co9] rfl (by (try simp only [List.map_toArray, List.map_cons, List.map_nil]); first | done | rfl | (simp only [List.length_drop, List.length_take]; rfl)) ?_; (with_reducible refine (glossatorref3_Equal_int.calls k1 _ _ t224 _ _ x4_1 true _ ?side1 ?side2 ?side3 ?side4 A7.out).mono ?_); (case side1 => repeat (first | exact (Kd.R_reads' HO226.out).2.2 | (with_reducible refine Kd.C_alloc ?_ _) | (with_reducible refine Kd.C_drewN ?_ _) | (with_reducible refine Kd.C_drew ?_))); (case side2 => exact (Kd.R_reads' HO226.out).2.1); (case side3 => repeat (first | exact (Kd.R_reads' HO_4.out).2.2 | (with_reducible refine Kd.C_alloc ?_ _) | (with_reducible refine Kd.C_drewN ?_ _) | (with_reducible refine Kd.C_drew ?_))); (case side4 => exact (Kd.R_reads' HO_4.out).2.1); rintro e w' ⟨rfl, ⟨nd, rfl⟩⟩; refine ⟨_, rfl, ?_⟩))
      go_ret2
      exact ⟨_, by first | rfl | (simp [errW_none, errW_some] <;> rfl) | (simp [*, errW_none, errW_some] <;> rfl), by (with_reducible repeat (first | apply Kd.R_alloc | apply Kd.R_drewN | apply Kd.R_drew)); exact Kd.R_mono HO_4.out (fun _ hk => trivial), by repeat (first | (with_reducible first | exact HB.out | apply below_alloc | apply pw_below_drewN | apply below_drew1) | exact HB.out)⟩
     ·replace c8 := Bool.eq_false_iff.mpr c8
      subst c8
      have H1 : (glossatorref3_Kleene.l0 k1 l0 t224 (wrap64 (x5_1 + 1))) = some (r1, r2) := by rw [if_neg (show ¬ (false = true) by decide)] at H; exact H
      clear H
      have H := H1
      clear H1
      have H' := Aside0.mk H
      clear H
      obtain ⟨Ao12, co12, eo12⟩ := Kd.R_slice HO_4.out
      subst eo12
      go_wp2_with (first | ((with_reducible refine gate_callee (f := 103) rfl ?_); refine goesL_ (some 14) rfl rfl Try.func103 (by kernel_rfl) rfl #[.slice A0 l0.length c0, .slice Ao12 x4_1.length co12] rfl (by (try simp only [List.map_toArray, List.map_cons, List.map_nil]); first | done | rfl | (simp only [List.length_drop, List.length_take]; rfl)) ?_; (with_reducible refine (glossatorref3_Round.calls k1 _ _ l0 _ _ x4_1 t224 _ ?side1 ?side2 ?side3 ?side4 A6.out).mono ?_); (case side1 => repeat (first | exact (Kd.C_below HR0.out HB.out) | (with_reducible refine Kd.C_alloc ?_ _) | (with_reducible refine Kd.C_drewN ?_ _) | (with_reducible refine Kd.C_drew ?_))); (case side2 => exact HC0.out); (case side3 => repeat (first | exact (Kd.R_reads' HO_4.out).2.2 | (with_reducible refine Kd.C_alloc ?_ _) | (with_reducible refine Kd.C_drewN ?_ _) | (with_reducible refine Kd.C_drew ?_))); (case side4 => exact (Kd.R_reads' HO_4.out).2.1); rintro e w13 ⟨v225, rfl, ho0, hb⟩; refine ⟨_, rfl, ?_⟩; have n0_ := Aside0.mk (Kd.R_elder' (by (with_reducible repeat (first | apply Kd.R_alloc | apply Kd.R_drewN | apply Kd.R_drew)); exact HO_4.out) (Kd.R_base ho0) hb); have n1_ := Aside0.mk (Kd.R_lower (Kd.R_new' ho0 (Kd.R_lt (by (with_reducible repeat (first | apply Kd.R_alloc | apply Kd.R_drewN | apply Kd.R_drew)); exact HO_4.out))) (below_size (by repeat (first | (with_reducible first | exact HB.out | apply below_alloc | apply pw_below_drewN | apply below_drew1) | exact HB.out)))); have n2_ := Aside0.mk (below_step (by repeat (first | (with_reducible first | exact HB.out | apply below_alloc | apply pw_below_drewN | apply below_drew1) | exact HB.out)) hb); clear HO_4; clear HB; have HO_4 := n0_; have HO226 := n1_; have HB := n2_; clear n0_ n1_ n2_; (try clear hb); (try clear hb2); (try clear hk); (try clear hi); (try clear ho0); obtain ⟨Ao14, co14, eo14⟩ := Kd.R_slice HO226.out; subst eo14) | ((with_reducible refine gate_callee (f := 35) rfl ?_); refine goesL_ (some 17) rfl rfl Try.func35 (by kernel_rfl) rfl #[.slice Ao14 t224.length co14, .slice Ao12 x4_1.length co12] rfl (by (try simp only [List.map_toArray, List.map_cons, List.map_nil]); first | done | rfl | (simp only [List.length_drop, List.length_take]; rfl)) ?_; (with_reducible refine (glossatorref3_Equal_int.calls k1 _ _ t224 _ _ x4_1 false _ ?side1 ?side2 ?side3 ?side4 A7.out).mono ?_); (case side1 => repeat (first | exact (Kd.R_reads' HO226.out).2.2 | (with_reducible refine Kd.C_alloc ?_ _) | (with_reducible refine Kd.C_drewN ?_ _) | (with_reducible refine Kd.C_drew ?_))); (case side2 => exact (Kd.R_reads' HO226.out).2.1); (case side3 => repeat (first | exact (Kd.R_reads' HO_4.out).2.2 | (with_reducible refine Kd.C_alloc ?_ _) | (with_reducible refine Kd.C_drewN ?_ _) | (with_reducible refine Kd.C_drew ?_))); (case side4 => exact (Kd.R_reads' HO_4.out).2.1); rintro e w' ⟨rfl, ⟨nd, rfl⟩⟩; refine ⟨_, rfl, ?_⟩))
      go_roundg k1
      case measure => have := HK1.out; omega
      case rel => exact ⟨(t224), (wrap64 (x5_1 + 1)), (by first | rfl | (simp; done) | (simp [*]; done) | (simp [isEmpty_bne]; done)), H', ⟨by have := HK1.out; omega⟩, ⟨by (with_reducible repeat (first | apply Kd.R_alloc | apply Kd.R_drewN | apply Kd.R_drew)); exact Kd.R_mono HO226.out (fun _ hk => trivial)⟩, ⟨by repeat (first | (with_reducible first | exact HB.out | apply below_alloc | apply pw_below_drewN | apply below_drew1) | exact HB.out)⟩⟩
  ·rw [if_neg c3] at H
   exact absurd H (by simp)
 ·rw [if_neg c2] at H
  exact absurd H (by simp)

/-! ### fixpoint_derivations_1_1: function 176 -/
def fixpoint_derivations_1_1.f (a0 : Int) (l1_0_0 : List Bool) : Option (Bool) := if 0 ≤ a0 then (if a0 < (l1_0_0.length : Int) then (some (!(rdOf false l1_0_0 a0))) else (none)) else (none)
set_option maxHeartbeats 8000000 in
set_option maxRecDepth 100000 in
theorem fixpoint_derivations_1_1.calls (a0 : Int) (b1_0 : Nat) (A1_0_0 : Option Addr) (c1_0_0 : Nat) (l1_0_0 : List Bool) (r : Bool) (w : World) (hr1_0_0 : Kd.C Kd.bool w A1_0_0 l1_0_0.length l1_0_0) (hc1_0_0 : l1_0_0.length ≤ c1_0_0) (hb1_0 : w.heap[b1_0]? = some (.cells #[.slice A1_0_0 l1_0_0.length c1_0_0] 184 (0, 0))) (h : fixpoint_derivations_1_1.f a0 l1_0_0 = some r) :
  Calls Try.prog 176 #[.int .i64 a0, .pointer (some ⟨b1_0, 0, none⟩)] w fun e w' => e = .returned (.bool r) ∧ Drawn0 w w' := by
 have HR1_0_0 := Aside0.mk hr1_0_0
 have HC1_0_0 := Aside0.mk hc1_0_0
 clear hr1_0_0 hc1_0_0
 have BK46 := Aside0.mk hb1_0
 clear hb1_0
 have H : (if 0 ≤ a0 then (if a0 < (l1_0_0.length : Int) then (some (!(rdOf false l1_0_0 a0))) else (none)) else (none)) = some r := h
 clear h
 by_cases c3 : 0 ≤ a0
 ·rw [if_pos c3] at H
  have c3b0 : decide (0 ≤ a0) = true := decide_eq_true c3
  clear c3
  by_cases c4 : a0 < (l1_0_0.length : Int)
  ·rw [if_pos c4] at H
   have c4b0 : decide (a0 < (l1_0_0.length : Int)) = true := decide_eq_true c4
   clear c4
   obtain rfl := Option.some.inj H
   have hcz5_0 : w.cell? ⟨b1_0, 0, none⟩ = some (.slice A1_0_0 l1_0_0.length c1_0_0) := (blk_cell BK46.out 0).trans rfl
   have hfz5_0 := blk_frozen BK46.out 0
   have p228 : 0 ≤ (a0 : Int) := of_decide_eq_true (by first | (with_reducible assumption) | assumption)
   have q228 : a0 < (l1_0_0.length : Int) := of_decide_eq_true (by first | (with_reducible assumption) | assumption)
   obtain ⟨ad228, e228, hx228_0⟩ := Kd.at_bool HR1_0_0.out a0 p228 q228
   cases e228
   replace p228 := eq_true p228
   replace q228 := eq_true q228
   go_enter Try.func176, Try.ntmps176
   go_wp2
   go_ret
   exact ⟨by first | rfl | (simp; done) | (simp [*]; done), by repeat (first | exact Drawn0.refl _ | apply Drawn0.step)⟩
  ·rw [if_neg c4] at H
   exact absurd H (by simp)
 ·rw [if_neg c3] at H
  exact absurd H (by simp)

/-! ### slices_IndexFunc_217_at_176_184: function 299 -/
def slices_IndexFunc_217_at_176_184.l0 : Nat → List Int → Int → Int → List Bool → Option (Int)
 | 0, _, _, _, _ => none
 | k + 1, x0, x7, x8, x47000 => if x8 < x7 then (if 0 ≤ x8 then (if x8 < (x0.length : Int) then ((fixpoint_derivations_1_1.f (rd x0 x8) x47000).bind fun t230 => (if t230 = true then (some x8) else (slices_IndexFunc_217_at_176_184.l0 k x0 x7 (wrap64 (x8 + 1)) x47000))) else (none)) else (none)) else (some (-1))
def slices_IndexFunc_217_at_176_184.f (k : Nat) (l0 : List Int) (l1_0_0 : List Bool) : Option (Int) := slices_IndexFunc_217_at_176_184.l0 k l0 (l0.length : Int) 0 l1_0_0
theorem slices_IndexFunc_217_at_176_184.mono_l : ∀ k, (∀ y0 y1 y2 y3, LeO (slices_IndexFunc_217_at_176_184.l0 k y0 y1 y2 y3) (slices_IndexFunc_217_at_176_184.l0 (k + 1) y0 y1 y2 y3))
 | 0 => fun _ _ _ _ r h => by simp [slices_IndexFunc_217_at_176_184.l0] at h
 | k + 1 => by
  have ih0 := slices_IndexFunc_217_at_176_184.mono_l k
  ·intro y0 y1 y2 y3
   unfold slices_IndexFunc_217_at_176_184.l0
   repeat' first
   | (with_reducible exact ih0 _ _ _ _)
   | (with_reducible exact LeO.refl _)
   | (with_reducible exact LeO.none _)
   | (with_reducible refine LeO.ite ?_ ?_)
   | (with_reducible refine LeO.bind ?_ (fun _ => ?_))
   | exact ih0 _ _ _ _
   | exact LeO.none _
   | refine LeO.ite ?_ ?_
   | refine LeO.bind ?_ (fun _ => ?_)
theorem slices_IndexFunc_217_at_176_184.mono : ∀ a0 a1 k, LeO (slices_IndexFunc_217_at_176_184.f k a0 a1) (slices_IndexFunc_217_at_176_184.f (k + 1) a0 a1) := by
 intro a0 a1 k
 have ih0 := slices_IndexFunc_217_at_176_184.mono_l k
 unfold slices_IndexFunc_217_at_176_184.f
 repeat' first
   | (with_reducible exact ih0 _ _ _ _)
   | (with_reducible exact LeO.refl _)
   | (with_reducible exact LeO.none _)
   | (with_reducible refine LeO.ite ?_ ?_)
   | (with_reducible refine LeO.bind ?_ (fun _ => ?_))
   | exact ih0 _ _ _ _
   | exact LeO.none _
   | refine LeO.ite ?_ ?_
   | refine LeO.bind ?_ (fun _ => ?_)
set_option maxHeartbeats 8000000 in
set_option maxRecDepth 100000 in
theorem slices_IndexFunc_217_at_176_184.calls (k : Nat) (A0 : Option Addr) (c0 : Nat) (l0 : List Int) (b1_0 : Nat) (A1_0_0 : Option Addr) (c1_0_0 : Nat) (l1_0_0 : List Bool) (r : Int) (w : World) (hr0 : Kd.C (Kd.int .i64) w A0 l0.length l0) (hc0 : l0.length ≤ c0) (hr1_0_0 : Kd.C Kd.bool w A1_0_0 l1_0_0.length l1_0_0) (hc1_0_0 : l1_0_0.length ≤ c1_0_0) (hb1_0 : w.heap[b1_0]? = some (.cells #[.slice A1_0_0 l1_0_0.length c1_0_0] 184 (0, 0))) (h : slices_IndexFunc_217_at_176_184.f k l0 l1_0_0 = some r) :
  Calls Try.prog 217 #[.slice A0 l0.length c0, .func (.func 176) #[] #[.pointer (some ⟨b1_0, 0, none⟩)]] w fun e w' => e = .returned (.int .i64 r) ∧ Below w.heap.size w w' := by
 have HR0 := Aside0.mk hr0
 have HC0 := Aside0.mk hc0
 clear hr0 hc0
 have HR1_0_0 := Aside0.mk hr1_0_0
 have HC1_0_0 := Aside0.mk hc1_0_0
 clear hr1_0_0 hc1_0_0
 have BK46 := Aside0.mk hb1_0
 clear hb1_0
 have HB := Aside0.mk (Below.refl w.heap.size w)
 have H : (slices_IndexFunc_217_at_176_184.l0 k l0 (l0.length : Int) 0 l1_0_0) = some r := h
 clear h
 have H' := Aside0.mk H
 clear H
 go_enter Try.func217, Try.ntmps217
 go_wp2
 go_loopg [8] k (fun kq v8 w' => ∃ (x8_1 : Int), v8 = .int .i64 x8_1 ∧ Aside0 (slices_IndexFunc_217_at_176_184.l0 kq l0 (l0.length : Int) x8_1 l1_0_0 = some r) ∧ Aside0 (kq ≤ k) ∧ Aside0 (w'.heap[b1_0]? = some (.cells #[(.slice A1_0_0 l1_0_0.length c1_0_0)] 184 (0, 0))) ∧ Aside0 (Below w.heap.size w w'))
 case atStart => exact ⟨(0), (by first | rfl | (simp; done) | (simp [*]; done) | (simp [isEmpty_bne]; done)), H', ⟨Nat.le_refl _⟩, ⟨by (with_reducible repeat (first | refine blk_drewN ?_ _ | refine blk_drew ?_ | refine blk_alloc ?_ _)); exact BK46.out⟩, ⟨by repeat (first | (with_reducible first | exact HB.out | apply below_alloc | apply pw_below_drewN | apply below_drew1 | refine below_set ?_ GE46.out) | exact HB.out)⟩⟩
 case round =>
  clear H'
  try clear c1
  try clear c2
  try clear p2
  obtain ⟨x8_1, rfl, HA, HK1, BK46, HB⟩ := hrel
  cases gk with
  | zero => exact absurd HA.out (by simp [slices_IndexFunc_217_at_176_184.l0])
  | succ k1 =>
   have H := HA.out
   clear HA
   simp only [slices_IndexFunc_217_at_176_184.l0] at H
   by_cases c3 : x8_1 < (l0.length : Int)
   ·rw [if_pos c3] at H
    have c3b0 : decide (x8_1 < (l0.length : Int)) = true := decide_eq_true c3
    clear c3
    by_cases c4 : 0 ≤ x8_1
    ·rw [if_pos c4] at H
     have c4b0 : decide (0 ≤ x8_1) = true := decide_eq_true c4
     clear c4
     by_cases c5 : x8_1 < (l0.length : Int)
     ·rw [if_pos c5] at H
      have c5b0 : decide (x8_1 < (l0.length : Int)) = true := decide_eq_true c5
      clear c5
      replace H := Option.bind_eq_some_iff.mp H
      obtain ⟨t230, A60, H⟩ := H
      replace H : (if t230 = true then (some x8_1) else (slices_IndexFunc_217_at_176_184.l0 k1 l0 (l0.length : Int) (wrap64 (x8_1 + 1)) l1_0_0)) = some r := H
      have A6 := Aside0.mk A60
      clear A60
      by_cases c7 : t230 = true
      ·subst c7
       have H1 : (some x8_1) = some r := by rw [if_pos rfl] at H; exact H
       clear H
       have H := H1
       clear H1
       obtain rfl := Option.some.inj H
       have p229 : 0 ≤ (x8_1 : Int) := of_decide_eq_true (by first | (with_reducible assumption) | assumption)
       have q229 : x8_1 < (l0.length : Int) := of_decide_eq_true (by first | (with_reducible assumption) | assumption)
       obtain ⟨ad229, e229, hx229_0⟩ := Kd.at_int HR0.out x8_1 p229 q229
       cases e229
       replace hx229_0 := (HB.out.cell (World.block_lt_of_cell? w _ hx229_0)).trans hx229_0
       replace p229 := eq_true p229
       replace q229 := eq_true q229
       go_wp2_with (first | (go_at_call 176; (with_reducible refine (fixpoint_derivations_1_1.calls (rd l0 x8_1) _ A1_0_0 c1_0_0 l1_0_0 true _ ?side1 ?side2 ?side3 A6.out).mono ?_); (case side1 => repeat (first | exact (Kd.C_below HR1_0_0.out HB.out) | (with_reducible refine Kd.C_alloc ?_ _) | (with_reducible refine Kd.C_drewN ?_ _) | (with_reducible refine Kd.C_drew ?_))); (case side2 => exact HC1_0_0.out); (case side3 => exact (by (with_reducible repeat (first | refine blk_drewN ?_ _ | refine blk_drew ?_ | refine blk_alloc ?_ _)); exact BK46.out)); rintro e w' ⟨rfl, ⟨nd, rfl⟩⟩))
       go_ret
       exact ⟨by first | rfl | (simp [errW_none, errW_some] <;> rfl) | (simp [*, errW_none, errW_some] <;> rfl), by repeat (first | (with_reducible first | exact HB.out | apply below_alloc | apply pw_below_drewN | apply below_drew1 | refine below_set ?_ GE46.out) | exact HB.out)⟩
      ·replace c7 := Bool.eq_false_iff.mpr c7
       subst c7
       have H1 : (slices_IndexFunc_217_at_176_184.l0 k1 l0 (l0.length : Int) (wrap64 (x8_1 + 1)) l1_0_0) = some r := by rw [if_neg (show ¬ (false = true) by decide)] at H; exact H
       clear H
       have H := H1
       clear H1
       have H' := Aside0.mk H
       clear H
       have p229 : 0 ≤ (x8_1 : Int) := of_decide_eq_true (by first | (with_reducible assumption) | assumption)
       have q229 : x8_1 < (l0.length : Int) := of_decide_eq_true (by first | (with_reducible assumption) | assumption)
       obtain ⟨ad229, e229, hx229_0⟩ := Kd.at_int HR0.out x8_1 p229 q229
       cases e229
       replace hx229_0 := (HB.out.cell (World.block_lt_of_cell? w _ hx229_0)).trans hx229_0
       replace p229 := eq_true p229
       replace q229 := eq_true q229
       go_wp2_with (first | (go_at_call 176; (with_reducible refine (fixpoint_derivations_1_1.calls (rd l0 x8_1) _ A1_0_0 c1_0_0 l1_0_0 false _ ?side1 ?side2 ?side3 A6.out).mono ?_); (case side1 => repeat (first | exact (Kd.C_below HR1_0_0.out HB.out) | (with_reducible refine Kd.C_alloc ?_ _) | (with_reducible refine Kd.C_drewN ?_ _) | (with_reducible refine Kd.C_drew ?_))); (case side2 => exact HC1_0_0.out); (case side3 => exact (by (with_reducible repeat (first | refine blk_drewN ?_ _ | refine blk_drew ?_ | refine blk_alloc ?_ _)); exact BK46.out)); rintro e w' ⟨rfl, ⟨nd, rfl⟩⟩))
       go_roundg k1
       case measure => have := HK1.out; omega
       case rel => exact ⟨(wrap64 (x8_1 + 1)), (by first | rfl | (simp; done) | (simp [*]; done) | (simp [isEmpty_bne]; done)), H', ⟨by have := HK1.out; omega⟩, ⟨by (with_reducible repeat (first | refine blk_drewN ?_ _ | refine blk_drew ?_ | refine blk_alloc ?_ _)); exact BK46.out⟩, ⟨by repeat (first | (with_reducible first | exact HB.out | apply below_alloc | apply pw_below_drewN | apply below_drew1 | refine below_set ?_ GE46.out) | exact HB.out)⟩⟩
     ·rw [if_neg c5] at H
      exact absurd H (by simp)
    ·rw [if_neg c4] at H
     exact absurd H (by simp)
   ·rw [if_neg c3] at H
    have c3b0 : decide (x8_1 < (l0.length : Int)) = false := decide_eq_false c3
    clear c3
    obtain rfl := Option.some.inj H
    go_wp2
    go_ret
    exact ⟨by first | rfl | (simp [errW_none, errW_some] <;> rfl) | (simp [*, errW_none, errW_some] <;> rfl), by repeat (first | (with_reducible first | exact HB.out | apply below_alloc | apply pw_below_drewN | apply below_drew1 | refine below_set ?_ GE46.out) | exact HB.out)⟩

/-! ### slices_ContainsFunc_172_at_176_184: function 298 -/
def slices_ContainsFunc_172_at_176_184.f (k : Nat) (l0 : List Int) (l1_0_0 : List Bool) : Option (Bool) := (slices_IndexFunc_217_at_176_184.f k l0 l1_0_0).bind fun t231 => (some (decide (t231 ≥ 0)))
theorem slices_ContainsFunc_172_at_176_184.mono : ∀ a0 a1 k, LeO (slices_ContainsFunc_172_at_176_184.f k a0 a1) (slices_ContainsFunc_172_at_176_184.f (k + 1) a0 a1) := by
 intro a0 a1 k
 unfold slices_ContainsFunc_172_at_176_184.f
 repeat' first
   | (with_reducible exact slices_IndexFunc_217_at_176_184.mono _ _ _)
   | (with_reducible exact LeO.refl _)
   | (with_reducible exact LeO.none _)
   | (with_reducible refine LeO.ite ?_ ?_)
   | (with_reducible refine LeO.bind ?_ (fun _ => ?_))
   | exact slices_IndexFunc_217_at_176_184.mono _ _ _
   | exact LeO.none _
   | refine LeO.ite ?_ ?_
   | refine LeO.bind ?_ (fun _ => ?_)
set_option maxHeartbeats 8000000 in
set_option maxRecDepth 100000 in
theorem slices_ContainsFunc_172_at_176_184.calls (k : Nat) (A0 : Option Addr) (c0 : Nat) (l0 : List Int) (b1_0 : Nat) (A1_0_0 : Option Addr) (c1_0_0 : Nat) (l1_0_0 : List Bool) (r : Bool) (w : World) (hr0 : Kd.C (Kd.int .i64) w A0 l0.length l0) (hc0 : l0.length ≤ c0) (hr1_0_0 : Kd.C Kd.bool w A1_0_0 l1_0_0.length l1_0_0) (hc1_0_0 : l1_0_0.length ≤ c1_0_0) (hb1_0 : w.heap[b1_0]? = some (.cells #[.slice A1_0_0 l1_0_0.length c1_0_0] 184 (0, 0))) (h : slices_ContainsFunc_172_at_176_184.f k l0 l1_0_0 = some r) :
  Calls Try.prog 172 #[.slice A0 l0.length c0, .func (.func 176) #[] #[.pointer (some ⟨b1_0, 0, none⟩)]] w fun e w' => e = .returned (.bool r) ∧ Below w.heap.size w w' := by
 have HR0 := Aside0.mk hr0
 have HC0 := Aside0.mk hc0
 clear hr0 hc0
 have HR1_0_0 := Aside0.mk hr1_0_0
 have HC1_0_0 := Aside0.mk hc1_0_0
 clear hr1_0_0 hc1_0_0
 have BK46 := Aside0.mk hb1_0
 clear hb1_0
 have HB := Aside0.mk (Below.refl w.heap.size w)
 have H : ((slices_IndexFunc_217_at_176_184.f k l0 l1_0_0).bind fun t231 => (some (decide (t231 ≥ 0)))) = some r := h
 clear h
 replace H := Option.bind_eq_some_iff.mp H
 obtain ⟨t231, A30, H⟩ := H
 replace H : (some (decide (t231 ≥ 0))) = some r := H
 have A3 := Aside0.mk A30
 clear A30
 obtain rfl := Option.some.inj H
 go_enter Try.func172, Try.ntmps172
 go_wp2_with (first | (go_at_call 217; (with_reducible refine (slices_IndexFunc_217_at_176_184.calls k _ _ l0 _ A1_0_0 c1_0_0 l1_0_0 t231 _ ?side1 ?side2 ?side3 ?side4 ?side5 A3.out).mono ?_); (case side1 => repeat (first | exact HR0.out | (with_reducible refine Kd.C_alloc ?_ _) | (with_reducible refine Kd.C_drewN ?_ _) | (with_reducible refine Kd.C_drew ?_))); (case side2 => exact HC0.out); (case side3 => repeat (first | exact HR1_0_0.out | (with_reducible refine Kd.C_alloc ?_ _) | (with_reducible refine Kd.C_drewN ?_ _) | (with_reducible refine Kd.C_drew ?_))); (case side4 => exact HC1_0_0.out); (case side5 => exact (by (with_reducible repeat (first | refine blk_drewN ?_ _ | refine blk_drew ?_ | refine blk_alloc ?_ _)); exact BK46.out)); rintro e w4 ⟨rfl, hb⟩; have n0_ := Aside0.mk (blk_below (g := b1_0) (o := .cells #[.slice A1_0_0 l1_0_0.length c1_0_0] 184 (0, 0)) (by (with_reducible repeat (first | refine blk_drewN ?_ _ | refine blk_drew ?_ | refine blk_alloc ?_ _)); exact BK46.out) hb); have n1_ := Aside0.mk (below_step (by repeat (first | (with_reducible first | exact HB.out | apply below_alloc | apply pw_below_drewN | apply below_drew1 | refine below_set ?_ GE46.out) | exact HB.out)) hb); clear BK46; clear HB; have BK46 := n0_; have HB := n1_; clear n0_ n1_; (try clear hb); (try clear hb2); (try clear hk); (try clear hi)))
 go_ret
 exact ⟨by first | rfl | (simp [errW_none, errW_some] <;> rfl) | (simp [*, errW_none, errW_some] <;> rfl), by repeat (first | (with_reducible first | exact HB.out | apply below_alloc | apply pw_below_drewN | apply below_drew1 | refine below_set ?_ GE46.out) | exact HB.out)⟩

/-! ### fixpoint_derivations_1: function 175 -/
def fixpoint_derivations_1.f (k : Nat) (a0_0 : Int) (l0_1 : List Int) (a1_0_0 : Int) (l2_0_0 : List Bool) : Option (Bool) := if 0 ≤ a1_0_0 then (if (Go.bits .and .i64 (shr .i64 a0_0 a1_0_0) 1) = 1 then ((slices_ContainsFunc_172_at_176_184.f k l0_1 l2_0_0).bind fun t233 => (some (!t233))) else (some false)) else (none)
theorem fixpoint_derivations_1.mono : ∀ a0 a1 a2 a3 k, LeO (fixpoint_derivations_1.f k a0 a1 a2 a3) (fixpoint_derivations_1.f (k + 1) a0 a1 a2 a3) := by
 intro a0 a1 a2 a3 k
 unfold fixpoint_derivations_1.f
 repeat' first
   | (with_reducible exact slices_ContainsFunc_172_at_176_184.mono _ _ _)
   | (with_reducible exact LeO.refl _)
   | (with_reducible exact LeO.none _)
   | (with_reducible refine LeO.ite ?_ ?_)
   | (with_reducible refine LeO.bind ?_ (fun _ => ?_))
   | exact slices_ContainsFunc_172_at_176_184.mono _ _ _
   | exact LeO.none _
   | refine LeO.ite ?_ ?_
   | refine LeO.bind ?_ (fun _ => ?_)
set_option maxHeartbeats 8000000 in
set_option maxRecDepth 100000 in
theorem fixpoint_derivations_1.calls (k : Nat) (a0_0 : Int) (A0_1 : Option Addr) (c0_1 : Nat) (l0_1 : List Int) (b1_0 : Nat) (a1_0_0 : Int) (b2_0 : Nat) (A2_0_0 : Option Addr) (c2_0_0 : Nat) (l2_0_0 : List Bool) (r : Bool) (w : World) (hr0_1 : Kd.C (Kd.int .i64) w A0_1 l0_1.length l0_1) (hc0_1 : l0_1.length ≤ c0_1) (hr2_0_0 : Kd.C Kd.bool w A2_0_0 l2_0_0.length l2_0_0) (hc2_0_0 : l2_0_0.length ≤ c2_0_0) (hb1_0 : w.heap[b1_0]? = some (.cells #[.int .i64 a1_0_0] 3 (0, 0))) (hb2_0 : w.heap[b2_0]? = some (.cells #[.slice A2_0_0 l2_0_0.length c2_0_0] 184 (0, 0))) (h : fixpoint_derivations_1.f k a0_0 l0_1 a1_0_0 l2_0_0 = some r) :
  Calls Try.prog 175 #[.agg #[.int .i64 a0_0, .slice A0_1 l0_1.length c0_1], .pointer (some ⟨b1_0, 0, none⟩), .pointer (some ⟨b2_0, 0, none⟩)] w fun e w' => e = .returned (.bool r) ∧ Below w.heap.size w w' := by
 have hu58 := Try.underlying58
 have HR0_1 := Aside0.mk hr0_1
 have HC0_1 := Aside0.mk hc0_1
 clear hr0_1 hc0_1
 have HR2_0_0 := Aside0.mk hr2_0_0
 have HC2_0_0 := Aside0.mk hc2_0_0
 clear hr2_0_0 hc2_0_0
 have BK46 := Aside0.mk hb1_0
 clear hb1_0
 have BK52 := Aside0.mk hb2_0
 clear hb2_0
 have HB := Aside0.mk (Below.refl w.heap.size w)
 have H : (if 0 ≤ a1_0_0 then (if (Go.bits .and .i64 (shr .i64 a0_0 a1_0_0) 1) = 1 then ((slices_ContainsFunc_172_at_176_184.f k l0_1 l2_0_0).bind fun t233 => (some (!t233))) else (some false)) else (none)) = some r := h
 clear h
 by_cases c4 : 0 ≤ a1_0_0
 ·rw [if_pos c4] at H
  have c4b0 := eq_true c4
  have c4b1 : decide (0 ≤ a1_0_0) = true := decide_eq_true c4
  clear c4
  obtain ⟨ji5, hji5⟩ : ∃ j_ : Int, (shr .i64 a0_0 a1_0_0) = j_ := ⟨_, rfl⟩
  replace H : (if (Go.bits .and .i64 (ji5) 1) = 1 then ((slices_ContainsFunc_172_at_176_184.f k l0_1 l2_0_0).bind fun t233 => (some (!t233))) else (some false)) = some r := by first | (rw [hji5] at H; exact H) | (simp only [hji5] at H ⊢; exact H)
  have hji5_ : (a0_0 / 2 ^ min a1_0_0.toNat 64) = ji5 := hji5
  have hji5z : a1_0_0 ≤ 64 → (a0_0 / 2 ^ a1_0_0.toNat) = ji5 := shr_small hji5
  by_cases c6 : (Go.bits .and .i64 (ji5) 1) = 1
  ·rw [if_pos c6] at H
   have c6b0 : ((Go.bits .and .i64 (ji5) 1) == 1) = true := beq_iff_eq.mpr c6
   have c6b1 : ((Go.bits .and .i64 (ji5) 1) != 1) = false := bne_eq_false_iff_eq.mpr c6
   clear c6
   replace H := Option.bind_eq_some_iff.mp H
   obtain ⟨t233, A70, H⟩ := H
   replace H : (some (!t233)) = some r := H
   have A7 := Aside0.mk A70
   clear A70
   obtain rfl := Option.some.inj H
   go_enter Try.func175, Try.ntmps175
   go_wp2_with (first | ((with_reducible refine gate_dst (N := 3) rfl ?_); refine box_event ?hg (N := 3) ?hd (cs := #[.int .i64 a0_0, .slice A0_1 l0_1.length c0_1]) (t := 58) ?hr ?_; (case hd => rfl); (case hg => rfl); (case hr => first | (go_simp; done) | (go_simp; rfl)); intro gb232 hg w8 hbox hb; have n0_ := Aside0.mk (blk_below (g := b1_0) (o := .cells #[.int .i64 a1_0_0] 3 (0, 0)) (by (with_reducible repeat (first | refine blk_drewN ?_ _ | refine blk_drew ?_ | refine blk_alloc ?_ _)); exact BK46.out) hb); have n1_ := Aside0.mk (blk_below (g := b2_0) (o := .cells #[.slice A2_0_0 l2_0_0.length c2_0_0] 184 (0, 0)) (by (with_reducible repeat (first | refine blk_drewN ?_ _ | refine blk_drew ?_ | refine blk_alloc ?_ _)); exact BK52.out) hb); have n2_ := Aside0.mk (below_step (by repeat (first | (with_reducible first | exact HB.out | apply below_alloc | apply pw_below_drewN | apply below_drew1 | refine below_set ?_ GE46.out | refine below_set ?_ GE52.out) | exact HB.out)) hb); have n3_ := Aside0.mk (hbox); have n4_ := Aside0.mk ((by rw [hg]; exact (below_size (by repeat (first | (with_reducible first | exact HB.out | apply below_alloc | apply pw_below_drewN | apply below_drew1 | refine below_set ?_ GE46.out | refine below_set ?_ GE52.out) | exact HB.out))) : w.heap.size ≤ gb232)); have n5_ := Aside0.mk ((by rw [hg]; exact (below_size (by repeat (first | (with_reducible first | exact HB.out | apply below_alloc | apply pw_below_drewN | apply below_drew1 | refine below_set ?_ GE46.out | refine below_set ?_ GE52.out) | exact HB.out))) : w.heap.size ≤ gb232)); have n6_ := Aside0.mk ((by rw [hg]; exact Nat.ne_of_lt (blk_lt (g := b1_0) (o := .cells #[.int .i64 a1_0_0] 3 (0, 0)) (by (with_reducible repeat (first | refine blk_drewN ?_ _ | refine blk_drew ?_ | refine blk_alloc ?_ _)); exact BK46.out)) : b1_0 ≠ gb232)); have n7_ := Aside0.mk ((by rw [hg]; exact Nat.ne_of_gt (blk_lt (g := b1_0) (o := .cells #[.int .i64 a1_0_0] 3 (0, 0)) (by (with_reducible repeat (first | refine blk_drewN ?_ _ | refine blk_drew ?_ | refine blk_alloc ?_ _)); exact BK46.out)) : gb232 ≠ b1_0)); have n8_ := Aside0.mk ((by rw [hg]; exact Nat.ne_of_lt (blk_lt (g := b2_0) (o := .cells #[.slice A2_0_0 l2_0_0.length c2_0_0] 184 (0, 0)) (by (with_reducible repeat (first | refine blk_drewN ?_ _ | refine blk_drew ?_ | refine blk_alloc ?_ _)); exact BK52.out)) : b2_0 ≠ gb232)); have n9_ := Aside0.mk ((by rw [hg]; exact Nat.ne_of_gt (blk_lt (g := b2_0) (o := .cells #[.slice A2_0_0 l2_0_0.length c2_0_0] 184 (0, 0)) (by (with_reducible repeat (first | refine blk_drewN ?_ _ | refine blk_drew ?_ | refine blk_alloc ?_ _)); exact BK52.out)) : gb232 ≠ b2_0)); clear BK46; clear BK52; clear HB; have BK46 := n0_; have BK52 := n1_; have HB := n2_; have BK232 := n3_; have GW232 := n4_; have GE232 := n5_; have NB46_232 := n6_; have NB232_46 := n7_; have NB52_232 := n8_; have NB232_52 := n9_; clear n0_ n1_ n2_ n3_ n4_ n5_ n6_ n7_ n8_ n9_; clear hb hbox hg; have hnb9 := NB232_46.out; have hnc9 := NB46_232.out; have hnb10 := NB232_52.out; have hnc10 := NB52_232.out; have hcz11_0 : w8.cell? ⟨gb232, 0, none⟩ = some (.int .i64 a0_0) := (blk_cell BK232.out 0).trans rfl; have hcz11_1 : w8.cell? ⟨gb232, 1, none⟩ = some (.slice A0_1 l0_1.length c0_1) := (blk_cell BK232.out 1).trans rfl; have hfz11_0 := blk_frozen BK232.out 0; have hfz11_1 := blk_frozen BK232.out 1; have hcz13_0 : w8.cell? ⟨b1_0, 0, none⟩ = some (.int .i64 a1_0_0) := (blk_cell BK46.out 0).trans rfl; have hfz13_0 := blk_frozen BK46.out 0) | (go_at_call 172; (with_reducible refine (slices_ContainsFunc_172_at_176_184.calls k _ _ l0_1 _ A2_0_0 c2_0_0 l2_0_0 t233 _ ?side1 ?side2 ?side3 ?side4 ?side5 A7.out).mono ?_); (case side1 => repeat (first | exact (Kd.C_below HR0_1.out HB.out) | (with_reducible refine Kd.C_alloc ?_ _) | (with_reducible refine Kd.C_drewN ?_ _) | (with_reducible refine Kd.C_drew ?_))); (case side2 => exact HC0_1.out); (case side3 => repeat (first | exact (Kd.C_below HR2_0_0.out HB.out) | (with_reducible refine Kd.C_alloc ?_ _) | (with_reducible refine Kd.C_drewN ?_ _) | (with_reducible refine Kd.C_drew ?_))); (case side4 => exact HC2_0_0.out); (case side5 => exact (by (with_reducible repeat (first | refine blk_drewN ?_ _ | refine blk_drew ?_ | refine blk_alloc ?_ _)); exact BK52.out)); rintro e w14 ⟨rfl, hb⟩; have n0_ := Aside0.mk (blk_below (g := b1_0) (o := .cells #[.int .i64 a1_0_0] 3 (0, 0)) (by (with_reducible repeat (first | refine blk_drewN ?_ _ | refine blk_drew ?_ | refine blk_alloc ?_ _)); exact BK46.out) hb); have n1_ := Aside0.mk (blk_below (g := b2_0) (o := .cells #[.slice A2_0_0 l2_0_0.length c2_0_0] 184 (0, 0)) (by (with_reducible repeat (first | refine blk_drewN ?_ _ | refine blk_drew ?_ | refine blk_alloc ?_ _)); exact BK52.out) hb); have n2_ := Aside0.mk (blk_below (g := gb232) (o := .cells #[.int .i64 a0_0, .slice A0_1 l0_1.length c0_1] 58 (0, 0)) (by (with_reducible repeat (first | refine blk_drewN ?_ _ | refine blk_drew ?_ | refine blk_alloc ?_ _)); exact BK232.out) hb); have n3_ := Aside0.mk (below_step (by repeat (first | (with_reducible first | exact HB.out | apply below_alloc | apply pw_below_drewN | apply below_drew1 | refine below_set ?_ GE46.out | refine below_set ?_ GE52.out | refine below_set ?_ GE232.out) | exact HB.out)) hb); clear BK46; clear BK52; clear BK232; clear HB; have BK46 := n0_; have BK52 := n1_; have BK232 := n2_; have HB := n3_; clear n0_ n1_ n2_ n3_; (try clear hb); (try clear hb2); (try clear hk); (try clear hi)))
   go_ret
   exact ⟨by first | rfl | (simp [errW_none, errW_some] <;> rfl) | (simp only [← hji5]; first | rfl | (simp [errW_none, errW_some] <;> rfl)) | (simp [*, errW_none, errW_some] <;> rfl), by repeat (first | (with_reducible first | exact HB.out | apply below_alloc | apply pw_below_drewN | apply below_drew1 | refine below_set ?_ GE46.out | refine below_set ?_ GE52.out | refine below_set ?_ GE232.out) | exact HB.out)⟩
  ·rw [if_neg c6] at H
   have c6b0 : ((Go.bits .and .i64 (ji5) 1) == 1) = false := beq_eq_false_iff_ne.mpr c6
   have c6b1 : ((Go.bits .and .i64 (ji5) 1) != 1) = true := bne_iff_ne.mpr c6
   obtain rfl := Option.some.inj H
   go_enter Try.func175, Try.ntmps175
   go_wp2_with (first | ((with_reducible refine gate_dst (N := 3) rfl ?_); refine box_event ?hg (N := 3) ?hd (cs := #[.int .i64 a0_0, .slice A0_1 l0_1.length c0_1]) (t := 58) ?hr ?_; (case hd => rfl); (case hg => rfl); (case hr => first | (go_simp; done) | (go_simp; rfl)); intro gb232 hg w15 hbox hb; have n0_ := Aside0.mk (blk_below (g := b1_0) (o := .cells #[.int .i64 a1_0_0] 3 (0, 0)) (by (with_reducible repeat (first | refine blk_drewN ?_ _ | refine blk_drew ?_ | refine blk_alloc ?_ _)); exact BK46.out) hb); have n1_ := Aside0.mk (blk_below (g := b2_0) (o := .cells #[.slice A2_0_0 l2_0_0.length c2_0_0] 184 (0, 0)) (by (with_reducible repeat (first | refine blk_drewN ?_ _ | refine blk_drew ?_ | refine blk_alloc ?_ _)); exact BK52.out) hb); have n2_ := Aside0.mk (below_step (by repeat (first | (with_reducible first | exact HB.out | apply below_alloc | apply pw_below_drewN | apply below_drew1 | refine below_set ?_ GE46.out | refine below_set ?_ GE52.out) | exact HB.out)) hb); have n3_ := Aside0.mk (hbox); have n4_ := Aside0.mk ((by rw [hg]; exact (below_size (by repeat (first | (with_reducible first | exact HB.out | apply below_alloc | apply pw_below_drewN | apply below_drew1 | refine below_set ?_ GE46.out | refine below_set ?_ GE52.out) | exact HB.out))) : w.heap.size ≤ gb232)); have n5_ := Aside0.mk ((by rw [hg]; exact (below_size (by repeat (first | (with_reducible first | exact HB.out | apply below_alloc | apply pw_below_drewN | apply below_drew1 | refine below_set ?_ GE46.out | refine below_set ?_ GE52.out) | exact HB.out))) : w.heap.size ≤ gb232)); have n6_ := Aside0.mk ((by rw [hg]; exact Nat.ne_of_lt (blk_lt (g := b1_0) (o := .cells #[.int .i64 a1_0_0] 3 (0, 0)) (by (with_reducible repeat (first | refine blk_drewN ?_ _ | refine blk_drew ?_ | refine blk_alloc ?_ _)); exact BK46.out)) : b1_0 ≠ gb232)); have n7_ := Aside0.mk ((by rw [hg]; exact Nat.ne_of_gt (blk_lt (g := b1_0) (o := .cells #[.int .i64 a1_0_0] 3 (0, 0)) (by (with_reducible repeat (first | refine blk_drewN ?_ _ | refine blk_drew ?_ | refine blk_alloc ?_ _)); exact BK46.out)) : gb232 ≠ b1_0)); have n8_ := Aside0.mk ((by rw [hg]; exact Nat.ne_of_lt (blk_lt (g := b2_0) (o := .cells #[.slice A2_0_0 l2_0_0.length c2_0_0] 184 (0, 0)) (by (with_reducible repeat (first | refine blk_drewN ?_ _ | refine blk_drew ?_ | refine blk_alloc ?_ _)); exact BK52.out)) : b2_0 ≠ gb232)); have n9_ := Aside0.mk ((by rw [hg]; exact Nat.ne_of_gt (blk_lt (g := b2_0) (o := .cells #[.slice A2_0_0 l2_0_0.length c2_0_0] 184 (0, 0)) (by (with_reducible repeat (first | refine blk_drewN ?_ _ | refine blk_drew ?_ | refine blk_alloc ?_ _)); exact BK52.out)) : gb232 ≠ b2_0)); clear BK46; clear BK52; clear HB; have BK46 := n0_; have BK52 := n1_; have HB := n2_; have BK232 := n3_; have GW232 := n4_; have GE232 := n5_; have NB46_232 := n6_; have NB232_46 := n7_; have NB52_232 := n8_; have NB232_52 := n9_; clear n0_ n1_ n2_ n3_ n4_ n5_ n6_ n7_ n8_ n9_; clear hb hbox hg; have hnb16 := NB232_46.out; have hnc16 := NB46_232.out; have hnb17 := NB232_52.out; have hnc17 := NB52_232.out; have hcz18_0 : w15.cell? ⟨gb232, 0, none⟩ = some (.int .i64 a0_0) := (blk_cell BK232.out 0).trans rfl; have hcz18_1 : w15.cell? ⟨gb232, 1, none⟩ = some (.slice A0_1 l0_1.length c0_1) := (blk_cell BK232.out 1).trans rfl; have hfz18_0 := blk_frozen BK232.out 0; have hfz18_1 := blk_frozen BK232.out 1; have hcz20_0 : w15.cell? ⟨b1_0, 0, none⟩ = some (.int .i64 a1_0_0) := (blk_cell BK46.out 0).trans rfl; have hfz20_0 := blk_frozen BK46.out 0))
   go_ret
   exact ⟨by first | rfl | (simp [errW_none, errW_some] <;> rfl) | (simp only [← hji5]; first | rfl | (simp [errW_none, errW_some] <;> rfl)) | (simp [*, errW_none, errW_some] <;> rfl), by repeat (first | (with_reducible first | exact HB.out | apply below_alloc | apply pw_below_drewN | apply below_drew1 | refine below_set ?_ GE46.out | refine below_set ?_ GE52.out | refine below_set ?_ GE232.out) | exact HB.out)⟩
 ·rw [if_neg c4] at H
  exact absurd H (by simp)

end Go.Proofs.Ytglckkkjfcomlaa.QFixpointProofs
