-- Written by gen.py (this repo's wip/), which runs the kit's print.py with more arms. Lean checks it.
import Derived.Test.YtglckkkjfcomlaaQFixpointProofsx0
import Derived.Test.YtglckkkjfcomlaaQFixpointProofsx7
namespace Go.Proofs.Ytglckkkjfcomlaa.QFixpointProofs
open Go.RowKit Go.Proofs.YtglckkkjfcomlaaW.PrintWords Go.Proofs.YtglckkkjfcomlaaW.PrintLast Go.Proofs.YtglckkkjfcomlaaW.PrintMore
attribute [local go_sem] max2_int min2_int max_two min_two max_three min_three max_four min_four   -- for this text's walks alone
set_option linter.unusedVariables false
set_option linter.unusedSimpArgs false

private theorem isEmpty_bne {α : Type} [BEq α] (l : List α) : (l != []) = !l.isEmpty := by cases l <;> rfl

/-! ### slices_IndexFunc_177_at_175_3_184: function 297 -/
def slices_IndexFunc_177_at_175_3_184.l0 : Nat → List (S58) → Int → Int → Int → List Bool → Option (Int)
 | 0, _, _, _, _, _ => none
 | k + 1, x0, x7, x8, x47000, x48000 => if x8 < x7 then (if 0 ≤ x8 then (if x8 < (x0.length : Int) then ((fixpoint_derivations_1.f k ((rd_T58 x0 x8).f0) ((rd_T58 x0 x8).f1) x47000 x48000).bind fun t235 => (if t235 = true then (some x8) else (slices_IndexFunc_177_at_175_3_184.l0 k x0 x7 (wrap64 (x8 + 1)) x47000 x48000))) else (none)) else (none)) else (some (-1))
def slices_IndexFunc_177_at_175_3_184.f (k : Nat) (l0 : List (S58)) (a1_0_0 : Int) (l1_1_0 : List Bool) : Option (Int) := slices_IndexFunc_177_at_175_3_184.l0 k l0 (l0.length : Int) 0 a1_0_0 l1_1_0
theorem slices_IndexFunc_177_at_175_3_184.mono_l : ∀ k, (∀ y0 y1 y2 y3 y4, LeO (slices_IndexFunc_177_at_175_3_184.l0 k y0 y1 y2 y3 y4) (slices_IndexFunc_177_at_175_3_184.l0 (k + 1) y0 y1 y2 y3 y4))
 | 0 => fun _ _ _ _ _ r h => by simp [slices_IndexFunc_177_at_175_3_184.l0] at h
 | k + 1 => by
  have ih0 := slices_IndexFunc_177_at_175_3_184.mono_l k
  ·intro y0 y1 y2 y3 y4
   unfold slices_IndexFunc_177_at_175_3_184.l0
   repeat' first
   | (with_reducible exact ih0 _ _ _ _ _)
   | (with_reducible exact fixpoint_derivations_1.mono _ _ _ _ _)
   | (with_reducible exact LeO.refl _)
   | (with_reducible exact LeO.none _)
   | (with_reducible refine LeO.ite ?_ ?_)
   | (with_reducible refine LeO.bind ?_ (fun _ => ?_))
   | exact ih0 _ _ _ _ _
   | exact fixpoint_derivations_1.mono _ _ _ _ _
   | exact LeO.none _
   | refine LeO.ite ?_ ?_
   | refine LeO.bind ?_ (fun _ => ?_)
theorem slices_IndexFunc_177_at_175_3_184.mono : ∀ a0 a1 a2 k, LeO (slices_IndexFunc_177_at_175_3_184.f k a0 a1 a2) (slices_IndexFunc_177_at_175_3_184.f (k + 1) a0 a1 a2) := by
 intro a0 a1 a2 k
 have ih0 := slices_IndexFunc_177_at_175_3_184.mono_l k
 unfold slices_IndexFunc_177_at_175_3_184.f
 repeat' first
   | (with_reducible exact ih0 _ _ _ _ _)
   | (with_reducible exact fixpoint_derivations_1.mono _ _ _ _ _)
   | (with_reducible exact LeO.refl _)
   | (with_reducible exact LeO.none _)
   | (with_reducible refine LeO.ite ?_ ?_)
   | (with_reducible refine LeO.bind ?_ (fun _ => ?_))
   | exact ih0 _ _ _ _ _
   | exact fixpoint_derivations_1.mono _ _ _ _ _
   | exact LeO.none _
   | refine LeO.ite ?_ ?_
   | refine LeO.bind ?_ (fun _ => ?_)
set_option maxHeartbeats 8000000 in
set_option maxRecDepth 100000 in
theorem slices_IndexFunc_177_at_175_3_184.calls (k : Nat) (A0 : Option Addr) (c0 : Nat) (l0 : List (S58)) (b1_0 : Nat) (b1_1 : Nat) (a1_0_0 : Int) (A1_1_0 : Option Addr) (c1_1_0 : Nat) (l1_1_0 : List Bool) (r : Int) (w : World) (hr0 : Kd.C k58 w A0 l0.length l0) (hc0 : l0.length ≤ c0) (hr1_1_0 : Kd.C Kd.bool w A1_1_0 l1_1_0.length l1_1_0) (hc1_1_0 : l1_1_0.length ≤ c1_1_0) (hb1_0 : w.heap[b1_0]? = some (.cells #[.int .i64 a1_0_0] 3 (0, 0))) (hb1_1 : w.heap[b1_1]? = some (.cells #[.slice A1_1_0 l1_1_0.length c1_1_0] 184 (0, 0))) (h : slices_IndexFunc_177_at_175_3_184.f k l0 a1_0_0 l1_1_0 = some r) :
  Calls Try.prog 177 #[.slice A0 l0.length c0, .func (.func 175) #[] #[.pointer (some ⟨b1_0, 0, none⟩), .pointer (some ⟨b1_1, 0, none⟩)]] w fun e w' => e = .returned (.int .i64 r) ∧ Below w.heap.size w w' := by
 have hu58 := Try.underlying58
 have HR0 := Aside0.mk hr0
 have HC0 := Aside0.mk hc0
 clear hr0 hc0
 have HR1_1_0 := Aside0.mk hr1_1_0
 have HC1_1_0 := Aside0.mk hc1_1_0
 clear hr1_1_0 hc1_1_0
 have BK46 := Aside0.mk hb1_0
 clear hb1_0
 have BK47 := Aside0.mk hb1_1
 clear hb1_1
 have HB := Aside0.mk (Below.refl w.heap.size w)
 have H : (slices_IndexFunc_177_at_175_3_184.l0 k l0 (l0.length : Int) 0 a1_0_0 l1_1_0) = some r := h
 clear h
 have H' := Aside0.mk H
 clear H
 go_enter Try.func177, Try.ntmps177
 go_wp2
 go_loopg [8] k (fun kq v8 w' => ∃ (x8_1 : Int), v8 = .int .i64 x8_1 ∧ Aside0 (slices_IndexFunc_177_at_175_3_184.l0 kq l0 (l0.length : Int) x8_1 a1_0_0 l1_1_0 = some r) ∧ Aside0 (kq ≤ k) ∧ Aside0 (w'.heap[b1_0]? = some (.cells #[.int .i64 a1_0_0] 3 (0, 0))) ∧ Aside0 (w'.heap[b1_1]? = some (.cells #[(.slice A1_1_0 l1_1_0.length c1_1_0)] 184 (0, 0))) ∧ Aside0 (Below w.heap.size w w'))
 case atStart => exact ⟨(0), (by first | rfl | (simp; done) | (simp [*]; done) | (simp [isEmpty_bne]; done)), H', ⟨Nat.le_refl _⟩, ⟨by (with_reducible repeat (first | refine blk_drewN ?_ _ | refine blk_drew ?_ | refine blk_alloc ?_ _)); exact BK46.out⟩, ⟨by (with_reducible repeat (first | refine blk_drewN ?_ _ | refine blk_drew ?_ | refine blk_alloc ?_ _)); exact BK47.out⟩, ⟨by repeat (first | (with_reducible first | exact HB.out | apply below_alloc | apply pw_below_drewN | apply below_drew1 | refine below_set ?_ GE46.out | refine below_set ?_ GE47.out) | exact HB.out)⟩⟩
 case round =>
  clear H'
  try clear c1
  try clear c2
  try clear p2
  obtain ⟨x8_1, rfl, HA, HK1, BK46, BK47, HB⟩ := hrel
  cases gk with
  | zero => exact absurd HA.out (by simp [slices_IndexFunc_177_at_175_3_184.l0])
  | succ k1 =>
   have H := HA.out
   clear HA
   simp only [slices_IndexFunc_177_at_175_3_184.l0] at H
   by_cases c3 : x8_1 < (l0.length : Int)
   ·rw [if_pos c3] at H
    have c3b0 : decide (x8_1 < (l0.length : Int)) = true := decide_eq_true c3
    clear c3
    by_cases c4 : 0 ≤ x8_1
    ·rw [if_pos c4] at H
     have c4b0 : decide (0 ≤ x8_1) = true := decide_eq_true c4
     clear c4
     by_cases c5 : x8_1 < (l0.length : Int)
     ·rw [if_pos c5] at H
      have c5b0 : decide (x8_1 < (l0.length : Int)) = true := decide_eq_true c5
      clear c5
      replace H := Option.bind_eq_some_iff.mp H
      obtain ⟨t235, A60, H⟩ := H
      replace H : (if t235 = true then (some x8_1) else (slices_IndexFunc_177_at_175_3_184.l0 k1 l0 (l0.length : Int) (wrap64 (x8_1 + 1)) a1_0_0 l1_1_0)) = some r := H
      have A6 := Aside0.mk A60
      clear A60
      by_cases c7 : t235 = true
      ·subst c7
       have H1 : (some x8_1) = some r := by rw [if_pos rfl] at H; exact H
       clear H
       have H := H1
       clear H1
       obtain rfl := Option.some.inj H
       have p234 : 0 ≤ (x8_1 : Int) := of_decide_eq_true (by first | (with_reducible assumption) | assumption)
       have q234 : x8_1 < (l0.length : Int) := of_decide_eq_true (by first | (with_reducible assumption) | assumption)
       obtain ⟨ad234, A234_1, c234_1, e234, hx234_0, hx234_1, hl234_1, hi234_1⟩ := at_T58 HR0.out x8_1 p234 q234
       cases e234
       replace hx234_0 := (HB.out.cell (World.block_lt_of_cell? w _ hx234_0)).trans hx234_0
       replace hx234_1 := (HB.out.cell (World.block_lt_of_cell? w _ hx234_1)).trans hx234_1
       have HR234_1 := Aside0.mk hi234_1
       have HC234_1 := Aside0.mk hl234_1
       clear hi234_1 hl234_1
       replace p234 := eq_true p234
       replace q234 := eq_true q234
       go_wp2_with (first | (go_at_call 175; (with_reducible refine (fixpoint_derivations_1.calls k1 ((rd_T58 l0 x8_1).f0) _ _ ((rd_T58 l0 x8_1).f1) _ a1_0_0 _ A1_1_0 c1_1_0 l1_1_0 true _ ?side1 ?side2 ?side3 ?side4 ?side5 ?side6 A6.out).mono ?_); (case side1 => repeat (first | exact (Kd.C_below HR234_1.out HB.out) | (with_reducible refine Kd.C_alloc ?_ _) | (with_reducible refine Kd.C_drewN ?_ _) | (with_reducible refine Kd.C_drew ?_))); (case side2 => exact HC234_1.out); (case side3 => repeat (first | exact (Kd.C_below HR1_1_0.out HB.out) | (with_reducible refine Kd.C_alloc ?_ _) | (with_reducible refine Kd.C_drewN ?_ _) | (with_reducible refine Kd.C_drew ?_))); (case side4 => exact HC1_1_0.out); (case side5 => exact (by (with_reducible repeat (first | refine blk_drewN ?_ _ | refine blk_drew ?_ | refine blk_alloc ?_ _)); exact BK46.out)); (case side6 => exact (by (with_reducible repeat (first | refine blk_drewN ?_ _ | refine blk_drew ?_ | refine blk_alloc ?_ _)); exact BK47.out)); rintro e w8 ⟨rfl, hb⟩; have n0_ := Aside0.mk (blk_below (g := b1_0) (o := .cells #[.int .i64 a1_0_0] 3 (0, 0)) (by (with_reducible repeat (first | refine blk_drewN ?_ _ | refine blk_drew ?_ | refine blk_alloc ?_ _)); exact BK46.out) hb); have n1_ := Aside0.mk (blk_below (g := b1_1) (o := .cells #[.slice A1_1_0 l1_1_0.length c1_1_0] 184 (0, 0)) (by (with_reducible repeat (first | refine blk_drewN ?_ _ | refine blk_drew ?_ | refine blk_alloc ?_ _)); exact BK47.out) hb); have n2_ := Aside0.mk (below_step (by repeat (first | (with_reducible first | exact HB.out | apply below_alloc | apply pw_below_drewN | apply below_drew1 | refine below_set ?_ GE46.out | refine below_set ?_ GE47.out) | exact HB.out)) hb); clear BK46; clear BK47; clear HB; have BK46 := n0_; have BK47 := n1_; have HB := n2_; clear n0_ n1_ n2_; (try clear hb); (try clear hb2); (try clear hk); (try clear hi)))
       go_ret
       exact ⟨by first | rfl | (simp [errW_none, errW_some] <;> rfl) | (simp [*, errW_none, errW_some] <;> rfl), by repeat (first | (with_reducible first | exact HB.out | apply below_alloc | apply pw_below_drewN | apply below_drew1 | refine below_set ?_ GE46.out | refine below_set ?_ GE47.out) | exact HB.out)⟩
      ·replace c7 := Bool.eq_false_iff.mpr c7
       subst c7
       have H1 : (slices_IndexFunc_177_at_175_3_184.l0 k1 l0 (l0.length : Int) (wrap64 (x8_1 + 1)) a1_0_0 l1_1_0) = some r := by rw [if_neg (show ¬ (false = true) by decide)] at H; exact H
       clear H
       have H := H1
       clear H1
       have H' := Aside0.mk H
       clear H
       have p234 : 0 ≤ (x8_1 : Int) := of_decide_eq_true (by first | (with_reducible assumption) | assumption)
       have q234 : x8_1 < (l0.length : Int) := of_decide_eq_true (by first | (with_reducible assumption) | assumption)
       obtain ⟨ad234, A234_1, c234_1, e234, hx234_0, hx234_1, hl234_1, hi234_1⟩ := at_T58 HR0.out x8_1 p234 q234
       cases e234
       replace hx234_0 := (HB.out.cell (World.block_lt_of_cell? w _ hx234_0)).trans hx234_0
       replace hx234_1 := (HB.out.cell (World.block_lt_of_cell? w _ hx234_1)).trans hx234_1
       have HR234_1 := Aside0.mk hi234_1
       have HC234_1 := Aside0.mk hl234_1
       clear hi234_1 hl234_1
       replace p234 := eq_true p234
       replace q234 := eq_true q234
       go_wp2_with (first | (go_at_call 175; (with_reducible refine (fixpoint_derivations_1.calls k1 ((rd_T58 l0 x8_1).f0) _ _ ((rd_T58 l0 x8_1).f1) _ a1_0_0 _ A1_1_0 c1_1_0 l1_1_0 false _ ?side1 ?side2 ?side3 ?side4 ?side5 ?side6 A6.out).mono ?_); (case side1 => repeat (first | exact (Kd.C_below HR234_1.out HB.out) | (with_reducible refine Kd.C_alloc ?_ _) | (with_reducible refine Kd.C_drewN ?_ _) | (with_reducible refine Kd.C_drew ?_))); (case side2 => exact HC234_1.out); (case side3 => repeat (first | exact (Kd.C_below HR1_1_0.out HB.out) | (with_reducible refine Kd.C_alloc ?_ _) | (with_reducible refine Kd.C_drewN ?_ _) | (with_reducible refine Kd.C_drew ?_))); (case side4 => exact HC1_1_0.out); (case side5 => exact (by (with_reducible repeat (first | refine blk_drewN ?_ _ | refine blk_drew ?_ | refine blk_alloc ?_ _)); exact BK46.out)); (case side6 => exact (by (with_reducible repeat (first | refine blk_drewN ?_ _ | refine blk_drew ?_ | refine blk_alloc ?_ _)); exact BK47.out)); rintro e w9 ⟨rfl, hb⟩; have n0_ := Aside0.mk (blk_below (g := b1_0) (o := .cells #[.int .i64 a1_0_0] 3 (0, 0)) (by (with_reducible repeat (first | refine blk_drewN ?_ _ | refine blk_drew ?_ | refine blk_alloc ?_ _)); exact BK46.out) hb); have n1_ := Aside0.mk (blk_below (g := b1_1) (o := .cells #[.slice A1_1_0 l1_1_0.length c1_1_0] 184 (0, 0)) (by (with_reducible repeat (first | refine blk_drewN ?_ _ | refine blk_drew ?_ | refine blk_alloc ?_ _)); exact BK47.out) hb); have n2_ := Aside0.mk (below_step (by repeat (first | (with_reducible first | exact HB.out | apply below_alloc | apply pw_below_drewN | apply below_drew1 | refine below_set ?_ GE46.out | refine below_set ?_ GE47.out) | exact HB.out)) hb); clear BK46; clear BK47; clear HB; have BK46 := n0_; have BK47 := n1_; have HB := n2_; clear n0_ n1_ n2_; (try clear hb); (try clear hb2); (try clear hk); (try clear hi)))
       go_roundg k1
       case measure => have := HK1.out; omega
       case rel => exact ⟨(wrap64 (x8_1 + 1)), (by first | rfl | (simp; done) | (simp [*]; done) | (simp [isEmpty_bne]; done)), H', ⟨by have := HK1.out; omega⟩, ⟨by (with_reducible repeat (first | refine blk_drewN ?_ _ | refine blk_drew ?_ | refine blk_alloc ?_ _)); exact BK46.out⟩, ⟨by (with_reducible repeat (first | refine blk_drewN ?_ _ | refine blk_drew ?_ | refine blk_alloc ?_ _)); exact BK47.out⟩, ⟨by repeat (first | (with_reducible first | exact HB.out | apply below_alloc | apply pw_below_drewN | apply below_drew1 | refine below_set ?_ GE46.out | refine below_set ?_ GE47.out) | exact HB.out)⟩⟩
     ·rw [if_neg c5] at H
      exact absurd H (by simp)
    ·rw [if_neg c4] at H
     exact absurd H (by simp)
   ·rw [if_neg c3] at H
    have c3b0 : decide (x8_1 < (l0.length : Int)) = false := decide_eq_false c3
    clear c3
    obtain rfl := Option.some.inj H
    go_wp2
    go_ret
    exact ⟨by first | rfl | (simp [errW_none, errW_some] <;> rfl) | (simp [*, errW_none, errW_some] <;> rfl), by repeat (first | (with_reducible first | exact HB.out | apply below_alloc | apply pw_below_drewN | apply below_drew1 | refine below_set ?_ GE46.out | refine below_set ?_ GE47.out) | exact HB.out)⟩

/-! ### fixpoint_derivations: function 104 -/
mutual
def fixpoint_derivations.l0 : Nat → List (List (S58)) → List (S182) → Bool → Int → List Bool → Option ((List (S182)))
 | 0, _, _, _, _, _ => none
 | k + 1, x0, x7, x8, x237000, x241000 => if x8 = true then (fixpoint_derivations.l1 k x0 x7 false x0 (x0.length : Int) 0 x237000 x241000) else (some x7)
def fixpoint_derivations.l1 : Nat → List (List (S58)) → List (S182) → Bool → List (List (S58)) → Int → Int → Int → List Bool → Option ((List (S182)))
 | 0, _, _, _, _, _, _, _, _ => none
 | k + 1, x0, x7, x8, x17, x18, x19, x237000, x241000 => if x19 < x18 then (if 0 ≤ x19 then (if x19 < (x17.length : Int) then (if x19 < (x241000.length : Int) then (if rdOf false x241000 x19 = true then (fixpoint_derivations.l1 k x0 x7 x8 x17 x18 (wrap64 (x19 + 1)) x237000 x241000) else ((slices_IndexFunc_177_at_175_3_184.f k (rd_L3 x17 x19) x237000 x241000).bind fun t243 => (if t243 ≥ 0 then (if x7.length < 5864062014805 then (fixpoint_derivations.l1 k x0 (x7 ++ [(⟨x19, t243, x237000⟩ : S182)]) true x17 x18 (wrap64 (x19 + 1)) x237000 (x241000.set (x19 : Int).toNat true)) else (none)) else (fixpoint_derivations.l1 k x0 x7 x8 x17 x18 (wrap64 (x19 + 1)) x237000 x241000)))) else (none)) else (none)) else (none)) else (fixpoint_derivations.l0 k x0 x7 x8 x237000 x241000)
end
def fixpoint_derivations.f (k : Nat) (l0 : List (List (S58))) (a1 : Int) : Option ((List (S182))) := if 0 ≤ (l0.length : Int) then (if ((l0.length : Int) : Int).toNat ≤ 281474976710656 then (fixpoint_derivations.l0 k l0 ([] : List (S182)) true a1 (List.replicate ((l0.length : Int) : Int).toNat false)) else (none)) else (none)
theorem fixpoint_derivations.mono_l : ∀ k, (∀ y0 y1 y2 y3 y4, LeO (fixpoint_derivations.l0 k y0 y1 y2 y3 y4) (fixpoint_derivations.l0 (k + 1) y0 y1 y2 y3 y4)) ∧ (∀ y0 y1 y2 y3 y4 y5 y6 y7, LeO (fixpoint_derivations.l1 k y0 y1 y2 y3 y4 y5 y6 y7) (fixpoint_derivations.l1 (k + 1) y0 y1 y2 y3 y4 y5 y6 y7))
 | 0 => ⟨fun _ _ _ _ _ r h => by simp [fixpoint_derivations.l0] at h, fun _ _ _ _ _ _ _ _ r h => by simp [fixpoint_derivations.l1] at h⟩
 | k + 1 => by
  obtain ⟨ih0, ih1⟩ := fixpoint_derivations.mono_l k
  refine ⟨?_, ?_⟩
  ·intro y0 y1 y2 y3 y4
   unfold fixpoint_derivations.l0
   repeat' first
   | (with_reducible exact ih0 _ _ _ _ _)
   | (with_reducible exact ih1 _ _ _ _ _ _ _ _)
   | (with_reducible exact slices_IndexFunc_177_at_175_3_184.mono _ _ _ _)
   | (with_reducible exact LeO.refl _)
   | (with_reducible exact LeO.none _)
   | (with_reducible refine LeO.ite ?_ ?_)
   | (with_reducible refine LeO.bind ?_ (fun _ => ?_))
   | exact ih0 _ _ _ _ _
   | exact ih1 _ _ _ _ _ _ _ _
   | exact slices_IndexFunc_177_at_175_3_184.mono _ _ _ _
   | exact LeO.none _
   | refine LeO.ite ?_ ?_
   | refine LeO.bind ?_ (fun _ => ?_)
  ·intro y0 y1 y2 y3 y4 y5 y6 y7
   unfold fixpoint_derivations.l1
   repeat' first
   | (with_reducible exact ih0 _ _ _ _ _)
   | (with_reducible exact ih1 _ _ _ _ _ _ _ _)
   | (with_reducible exact slices_IndexFunc_177_at_175_3_184.mono _ _ _ _)
   | (with_reducible exact LeO.refl _)
   | (with_reducible exact LeO.none _)
   | (with_reducible refine LeO.ite ?_ ?_)
   | (with_reducible refine LeO.bind ?_ (fun _ => ?_))
   | exact ih0 _ _ _ _ _
   | exact ih1 _ _ _ _ _ _ _ _
   | exact slices_IndexFunc_177_at_175_3_184.mono _ _ _ _
   | exact LeO.none _
   | refine LeO.ite ?_ ?_
   | refine LeO.bind ?_ (fun _ => ?_)
theorem fixpoint_derivations.mono : ∀ a0 a1 k, LeO (fixpoint_derivations.f k a0 a1) (fixpoint_derivations.f (k + 1) a0 a1) := by
 intro a0 a1 k
 obtain ⟨ih0, ih1⟩ := fixpoint_derivations.mono_l k
 unfold fixpoint_derivations.f
 repeat' first
   | (with_reducible exact ih0 _ _ _ _ _)
   | (with_reducible exact ih1 _ _ _ _ _ _ _ _)
   | (with_reducible exact slices_IndexFunc_177_at_175_3_184.mono _ _ _ _)
   | (with_reducible exact LeO.refl _)
   | (with_reducible exact LeO.none _)
   | (with_reducible refine LeO.ite ?_ ?_)
   | (with_reducible refine LeO.bind ?_ (fun _ => ?_))
   | exact ih0 _ _ _ _ _
   | exact ih1 _ _ _ _ _ _ _ _
   | exact slices_IndexFunc_177_at_175_3_184.mono _ _ _ _
   | exact LeO.none _
   | refine LeO.ite ?_ ?_
   | refine LeO.bind ?_ (fun _ => ?_)
set_option maxHeartbeats 8000000 in
set_option maxRecDepth 100000 in
theorem fixpoint_derivations.calls (k : Nat) (A0 : Option Addr) (c0 : Nat) (l0 : List (List (S58))) (a1 : Int) (r : List (S182)) (w : World) (hr0 : Kd.C (Kd.slice 58 k58) w A0 l0.length l0) (hc0 : l0.length ≤ c0) (h : fixpoint_derivations.f k l0 a1 = some r) :
  Calls Try.prog 104 #[.slice A0 l0.length c0, .int .i64 a1] w fun e w' => ∃ v0_ : Value, e = .returned (v0_) ∧ Kd.R k182 182 w' w.heap.size (fun _ => True) v0_ r ∧ Below w.heap.size w w' := by
 have hu182 := Try.underlying182
 have HR0 := Aside0.mk hr0
 have HC0 := Aside0.mk hc0
 clear hr0 hc0
 have HB := Aside0.mk (Below.refl w.heap.size w)
 have H : (if 0 ≤ (l0.length : Int) then (if ((l0.length : Int) : Int).toNat ≤ 281474976710656 then (fixpoint_derivations.l0 k l0 ([] : List (S182)) true a1 (List.replicate ((l0.length : Int) : Int).toNat false)) else (none)) else (none)) = some r := h
 clear h
 by_cases c3 : 0 ≤ (l0.length : Int)
 ·rw [if_pos c3] at H
  have c3b0 := eq_true c3
  have c3b1 : decide (0 ≤ (l0.length : Int)) = true := decide_eq_true c3
  clear c3
  by_cases c4 : ((l0.length : Int) : Int).toNat ≤ 281474976710656
  ·rw [if_pos c4] at H
   have c4b0 := eq_true c4
   have c4b1 : decide (((l0.length : Int) : Int).toNat ≤ 281474976710656) = true := decide_eq_true c4
   clear c4
   obtain ⟨y237, hy237⟩ : ∃ y_ : List Bool, y_ = (List.replicate ((l0.length : Int) : Int).toNat false) := ⟨_, rfl⟩
   replace H : (fixpoint_derivations.l0 k l0 ([] : List (S182)) true a1 y237) = some r := by first | (rw [hy237]; with_reducible exact H) | (have H2_ := (Option.bind_some _ _).symm.trans H; rw [hy237]; with_reducible exact H2_) | (have H2_ := (Option.bind_some _ _).symm.trans H; with_reducible exact H2_) | with_reducible exact H | (rw [hy237]; exact H) | exact H
   have Ny237 := Aside0.mk hy237
   clear hy237
   have H' := Aside0.mk H
   clear H
   go_enter Try.func104, Try.ntmps104
   go_wp2_with (first | ((with_reducible refine gate_dst (N := 3) rfl ?_); refine box_event ?hg (N := 3) ?hd (cs := #[.int .i64 a1]) (t := 3) ?hr ?_; (case hd => rfl); (case hg => rfl); (case hr => first | (go_simp; done) | (go_simp; rfl)); intro gb236 hg w5 hbox hb; have n0_ := Aside0.mk (below_step (by repeat (first | (with_reducible first | exact HB.out | apply below_alloc | apply pw_below_drewN | apply below_drew1) | exact HB.out)) hb); have n1_ := Aside0.mk (hbox); have n2_ := Aside0.mk ((by rw [hg]; exact (below_size (by repeat (first | (with_reducible first | exact HB.out | apply below_alloc | apply pw_below_drewN | apply below_drew1) | exact HB.out))) : w.heap.size ≤ gb236)); have n3_ := Aside0.mk ((by rw [hg]; exact (below_size (by repeat (first | (with_reducible first | exact HB.out | apply below_alloc | apply pw_below_drewN | apply below_drew1) | exact HB.out))) : w.heap.size ≤ gb236)); clear HB; have HB := n0_; have BK236 := n1_; have GW236 := n2_; have GE236 := n3_; clear n0_ n1_ n2_ n3_; clear hb hbox hg) | ((with_reducible refine gate_dst (N := 14) rfl ?_); refine Kd.R_make Kd.bool _ 4 rfl (N := 14) rfl 184 _ _ rfl (l0.length : Int) rfl rfl Try.underlying184 (.bool false) 1 info4 rfl (by decide) (by omega) false (ok := fun _ => True) (okp := fun _ => True) rfl (fun _ hk => hk) trivial (of_decide_eq_true (by first | (with_reducible assumption) | assumption)) (Nat.le_trans (Nat.mul_le_mul_right _ (of_decide_eq_true (by first | (with_reducible assumption) | assumption) : (l0.length : Int).toNat ≤ 281474976710656)) (by omega)) (Below.refl _ _) (Nat.le_refl _) ?_; intro v238 w6 ho7 hb hg_ hnew_; clear hg_ hnew_; (first | rw [← Ny237.out] at ho7 | (simp only [Int.reduceToNat] at ho7; rw [← Ny237.out] at ho7)); have n0_ := Aside0.mk (Kd.R_lower ho7 (below_size (by repeat (first | (with_reducible first | exact HB.out | apply below_alloc | apply pw_below_drewN | apply below_drew1 | refine below_set ?_ GE236.out) | exact HB.out)))); have n1_ := Aside0.mk (blk_below (g := gb236) (o := .cells #[.int .i64 a1] 3 (0, 0)) (by (with_reducible repeat (first | refine blk_drewN ?_ _ | refine blk_drew ?_ | refine blk_alloc ?_ _)); exact BK236.out) hb); have n2_ := Aside0.mk (below_step (by repeat (first | (with_reducible first | exact HB.out | apply below_alloc | apply pw_below_drewN | apply below_drew1 | refine below_set ?_ GE236.out) | exact HB.out)) hb); clear BK236; clear HB; have HO239 := n0_; have BK236 := n1_; have HB := n2_; clear n0_ n1_ n2_; clear hb ho7) | ((with_reducible refine gate_dst (N := 5) rfl ?_); refine box_event ?hg (N := 5) ?hd (cs := #[.slice none 0 0]) (t := 184) ?hr ?_; (case hd => rfl); (case hg => rfl); (case hr => first | (go_simp; done) | (go_simp; rfl)); intro gb240 hg w8 hbox hb; have n0_ := Aside0.mk (Kd.R_below (by (with_reducible repeat (first | apply Kd.R_alloc | apply Kd.R_drewN | apply Kd.R_drew)); exact HO239.out) hb); have n1_ := Aside0.mk (blk_below (g := gb236) (o := .cells #[.int .i64 a1] 3 (0, 0)) (by (with_reducible repeat (first | refine blk_drewN ?_ _ | refine blk_drew ?_ | refine blk_alloc ?_ _)); exact BK236.out) hb); have n2_ := Aside0.mk (below_step (by repeat (first | (with_reducible first | exact HB.out | apply below_alloc | apply pw_below_drewN | apply below_drew1 | refine below_set ?_ GE236.out) | exact HB.out)) hb); have n3_ := Aside0.mk (hbox); have n4_ := Aside0.mk ((by rw [hg]; exact (below_size (by repeat (first | (with_reducible first | exact HB.out | apply below_alloc | apply pw_below_drewN | apply below_drew1 | refine below_set ?_ GE236.out) | exact HB.out))) : w.heap.size ≤ gb240)); have n5_ := Aside0.mk ((by rw [hg]; exact (below_size (by repeat (first | (with_reducible first | exact HB.out | apply below_alloc | apply pw_below_drewN | apply below_drew1 | refine below_set ?_ GE236.out) | exact HB.out))) : w.heap.size ≤ gb240)); have n6_ := Aside0.mk ((by rw [hg]; exact Nat.ne_of_lt (blk_lt (g := gb236) (o := .cells #[.int .i64 a1] 3 (0, 0)) (by (with_reducible repeat (first | refine blk_drewN ?_ _ | refine blk_drew ?_ | refine blk_alloc ?_ _)); exact BK236.out)) : gb236 ≠ gb240)); have n7_ := Aside0.mk ((by rw [hg]; exact Nat.ne_of_gt (blk_lt (g := gb236) (o := .cells #[.int .i64 a1] 3 (0, 0)) (by (with_reducible repeat (first | refine blk_drewN ?_ _ | refine blk_drew ?_ | refine blk_alloc ?_ _)); exact BK236.out)) : gb240 ≠ gb236)); clear HO239; clear BK236; clear HB; have HO239 := n0_; have BK236 := n1_; have HB := n2_; have BK240 := n3_; have GW240 := n4_; have GE240 := n5_; have NB236_240 := n6_; have NB240_236 := n7_; clear n0_ n1_ n2_ n3_ n4_ n5_ n6_ n7_; clear hb hbox hg; obtain ⟨Ao9, co9, eo9⟩ := Kd.R_slice HO239.out; subst eo9; have hnb10 := NB240_236.out; have hnc10 := NB236_240.out; have hcz11_0 : w8.cell? ⟨gb240, 0, none⟩ = some (.slice none 0 0) := (blk_cell BK240.out 0).trans rfl; have hfz11_0 := blk_frozen BK240.out 0))
   go_loopg [7, 8] k (fun kq v7 v8 w' => ∃ (x7_1 : List (S182)) (x8_1 : Bool) (x241000_1 : List Bool) (u241000 : Value), v8 = .bool x8_1 ∧ Aside0 (fixpoint_derivations.l0 kq l0 x7_1 x8_1 a1 x241000_1 = some r) ∧ Aside0 (kq ≤ k) ∧ Aside0 (Kd.R k182 182 w' w.heap.size (fun _ => True) v7 x7_1) ∧ Aside0 (Kd.R Kd.bool 4 w' w.heap.size (fun _ => True) u241000 x241000_1) ∧ Aside0 (w'.heap[gb236]? = some (.cells #[.int .i64 a1] 3 (0, 0))) ∧ Aside0 (w'.heap[gb240]? = some (.cells #[u241000] 184 (0, 0))) ∧ Aside0 (Below w.heap.size w w'))
   case atStart => exact ⟨(([] : List (S182))), (true), (y237), (.slice Ao9 y237.length co9), (by first | rfl | (simp; done) | (simp [*]; done) | (simp [isEmpty_bne]; done)), H', ⟨Nat.le_refl _⟩, ⟨by first | exact Kd.R_nil _ _ _ _ _ | exact Kd.N_nil _ _ _ _ _ | exact Kd.V_nil _ _ _ _ _ | exact Kd.Q_nil _ _ _ _ _ | exact Kd.S_nil _ _ _ _ _⟩, ⟨by (with_reducible repeat (first | apply Kd.R_alloc | apply Kd.R_drewN | apply Kd.R_drew)); exact Kd.R_mono (Kd.R_far (p := ⟨gb240, 0, none⟩) (Kd.R_types HO239.out BK240.out (by decide)) (fun _ hk => hk.2) (.slice Ao9 y237.length co9)) (fun _ hk => trivial)⟩, ⟨by (with_reducible repeat (first | refine blk_drewN ?_ _ | refine blk_drew ?_ | refine blk_alloc ?_ _)); refine blk_far ?_ NB236_240.out _; (with_reducible repeat (first | refine blk_drewN ?_ _ | refine blk_drew ?_ | refine blk_alloc ?_ _)); exact BK236.out⟩, ⟨by (with_reducible repeat (first | refine blk_drewN ?_ _ | refine blk_drew ?_ | refine blk_alloc ?_ _)); refine blk_put (cs := #[.slice none 0 0]) ?_ 0 _ rfl; (with_reducible repeat (first | refine blk_drewN ?_ _ | refine blk_drew ?_ | refine blk_alloc ?_ _)); exact BK240.out⟩, ⟨by repeat (first | (with_reducible first | exact HB.out | apply below_alloc | apply pw_below_drewN | apply below_drew1 | refine below_set ?_ GE236.out | refine below_set ?_ GE240.out) | exact HB.out)⟩⟩
   case round =>
    clear H'
    try clear c1
    try clear p2
    try clear c3
    try clear c3b0
    try clear c3b1
    try clear c4
    try clear c4b0
    try clear c4b1
    try clear c10
    try clear hcz11_0
    try clear hfz11_0
    obtain ⟨x7_1, x8_1, x241000_1, u241000, rfl, HA, HK1, HO_7, HO_241000, BK236, BK240, HB⟩ := hrel
    cases gk with
    | zero => exact absurd HA.out (by simp [fixpoint_derivations.l0])
    | succ k1 =>
     have H := HA.out
     clear HA
     simp only [fixpoint_derivations.l0] at H
     by_cases c12 : x8_1 = true
     ·subst c12
      have H1 : (fixpoint_derivations.l1 k1 l0 x7_1 false l0 (l0.length : Int) 0 a1 x241000_1) = some r := by rw [if_pos rfl] at H; exact H
      clear H
      have H := H1
      clear H1
      have H' := Aside0.mk H
      clear H
      go_wp2
      go_loopg [7, 8, 19] k1 (fun kq v7 v8 v19 w' => ∃ (x7_2 : List (S182)) (x8_2 : Bool) (x19_2 : Int) (x241000_2 : List Bool) (u241000 : Value), v8 = .bool x8_2 ∧ v19 = .int .i64 x19_2 ∧ Aside0 (fixpoint_derivations.l1 kq l0 x7_2 x8_2 l0 (l0.length : Int) x19_2 a1 x241000_2 = some r) ∧ Aside0 (kq ≤ k1) ∧ Aside0 (Kd.R k182 182 w' w.heap.size (fun _ => True) v7 x7_2) ∧ Aside0 (Kd.R Kd.bool 4 w' w.heap.size (fun _ => True) u241000 x241000_2) ∧ Aside0 (w'.heap[gb236]? = some (.cells #[.int .i64 a1] 3 (0, 0))) ∧ Aside0 (w'.heap[gb240]? = some (.cells #[u241000] 184 (0, 0))) ∧ Aside0 (Below w.heap.size w w'))
      case atStart => exact ⟨(x7_1), (false), (0), (x241000_1), (u241000), (by first | rfl | (simp; done) | (simp [*]; done) | (simp [isEmpty_bne]; done)), (by first | rfl | (simp; done) | (simp [*]; done) | (simp [isEmpty_bne]; done)), H', ⟨Nat.le_refl _⟩, ⟨by (with_reducible repeat (first | apply Kd.R_alloc | apply Kd.R_drewN | apply Kd.R_drew)); exact HO_7.out⟩, ⟨by (with_reducible repeat (first | apply Kd.R_alloc | apply Kd.R_drewN | apply Kd.R_drew)); exact HO_241000.out⟩, ⟨by (with_reducible repeat (first | refine blk_drewN ?_ _ | refine blk_drew ?_ | refine blk_alloc ?_ _)); exact BK236.out⟩, ⟨by (with_reducible repeat (first | refine blk_drewN ?_ _ | refine blk_drew ?_ | refine blk_alloc ?_ _)); exact BK240.out⟩, ⟨by repeat (first | (with_reducible first | exact HB.out | apply below_alloc | apply pw_below_drewN | apply below_drew1 | refine below_set ?_ GE236.out | refine below_set ?_ GE240.out) | exact HB.out)⟩⟩
      case round =>
       clear H'
       try clear c1
       try clear p2
       try clear c3
       try clear c3b0
       try clear c3b1
       try clear c4
       try clear c4b0
       try clear c4b1
       try clear c10
       try clear c12
       try clear hcz11_0
       try clear hfz11_0
       try clear p2
       obtain ⟨x7_2, x8_2, x19_2, x241000_2, u241000, rfl, rfl, HA, HK2, HO_7, HO_241000, BK236, BK240, HB⟩ := hrel
       cases gk with
       | zero => exact absurd HA.out (by simp [fixpoint_derivations.l1])
       | succ k2 =>
        have H := HA.out
        clear HA
        simp only [fixpoint_derivations.l1] at H
        by_cases c13 : x19_2 < (l0.length : Int)
        ·rw [if_pos c13] at H
         have c13b0 : decide (x19_2 < (l0.length : Int)) = true := decide_eq_true c13
         clear c13
         by_cases c14 : 0 ≤ x19_2
         ·rw [if_pos c14] at H
          have c14b0 : decide (0 ≤ x19_2) = true := decide_eq_true c14
          clear c14
          by_cases c15 : x19_2 < (l0.length : Int)
          ·rw [if_pos c15] at H
           have c15b0 : decide (x19_2 < (l0.length : Int)) = true := decide_eq_true c15
           clear c15
           by_cases c16 : x19_2 < (x241000_2.length : Int)
           ·rw [if_pos c16] at H
            have c16b0 : decide (x19_2 < (x241000_2.length : Int)) = true := decide_eq_true c16
            clear c16
            obtain ⟨bq17, hbq17⟩ : ∃ b_ : Bool, b_ = (rdOf false x241000_2 x19_2) := ⟨_, rfl⟩
            replace H : (if bq17 = true then (fixpoint_derivations.l1 k2 l0 x7_2 x8_2 l0 (l0.length : Int) (wrap64 (x19_2 + 1)) a1 x241000_2) else ((slices_IndexFunc_177_at_175_3_184.f k2 (rd_L3 l0 x19_2) a1 x241000_2).bind fun t243 => (if t243 ≥ 0 then (if x7_2.length < 5864062014805 then (fixpoint_derivations.l1 k2 l0 (x7_2 ++ [(⟨x19_2, t243, a1⟩ : S182)]) true l0 (l0.length : Int) (wrap64 (x19_2 + 1)) a1 (x241000_2.set (x19_2 : Int).toNat true)) else (none)) else (fixpoint_derivations.l1 k2 l0 x7_2 x8_2 l0 (l0.length : Int) (wrap64 (x19_2 + 1)) a1 x241000_2)))) = some r := by rw [← hbq17] at H; exact H
            have Nbq17 := Aside0.mk hbq17
            clear hbq17
            by_cases c18 : bq17 = true
            ·subst c18
             have H1 : (fixpoint_derivations.l1 k2 l0 x7_2 x8_2 l0 (l0.length : Int) (wrap64 (x19_2 + 1)) a1 x241000_2) = some r := by rw [if_pos rfl] at H; exact H
             clear H
             have H := H1
             clear H1
             have H' := Aside0.mk H
             clear H
             have p241 : 0 ≤ (x19_2 : Int) := of_decide_eq_true (by first | (with_reducible assumption) | assumption)
             have q241 : x19_2 < (l0.length : Int) := of_decide_eq_true (by first | (with_reducible assumption) | assumption)
             obtain ⟨ad241, A241_0, c241_0, e241, hx241_0, hl241_0, hi241_0⟩ := at_L3 HR0.out x19_2 p241 q241
             cases e241
             replace hx241_0 := (HB.out.cell (World.block_lt_of_cell? w _ hx241_0)).trans hx241_0
             have HR241_0 := Aside0.mk hi241_0
             have HC241_0 := Aside0.mk hl241_0
             clear hi241_0 hl241_0
             replace p241 := eq_true p241
             replace q241 := eq_true q241
             have hnb19 := NB240_236.out
             have hnc19 := NB236_240.out
             have hcz20_0 : wr.cell? ⟨gb240, 0, none⟩ = some (u241000) := (blk_cell BK240.out 0).trans rfl
             have hfz20_0 := blk_frozen BK240.out 0
             obtain ⟨Ao21, co21, eo21⟩ := Kd.R_slice HO_241000.out
             subst eo21
             have p242 : 0 ≤ (x19_2 : Int) := of_decide_eq_true (by first | (with_reducible assumption) | assumption)
             have q242 : x19_2 < (x241000_2.length : Int) := of_decide_eq_true (by first | (with_reducible assumption) | assumption)
             obtain ⟨ad242, e242, hx242_0⟩ := Kd.at_bool (Kd.R_reads' HO_241000.out).2.2 x19_2 p242 q242
             (try rw [← Nbq17.out] at hx242_0)
             cases e242
             replace p242 := eq_true p242
             replace q242 := eq_true q242
             go_wp2
             go_roundg k2
             case measure => have := HK1.out; have := HK2.out; omega
             case rel => exact ⟨(x7_2), (x8_2), (wrap64 (x19_2 + 1)), (x241000_2), (.slice (some ad242) x241000_2.length co21), (by first | rfl | (simp; done) | (simp [*]; done) | (simp [isEmpty_bne]; done)), (by first | rfl | (simp; done) | (simp [*]; done) | (simp [isEmpty_bne]; done)), H', ⟨by have := HK1.out; have := HK2.out; omega⟩, ⟨by (with_reducible repeat (first | apply Kd.R_alloc | apply Kd.R_drewN | apply Kd.R_drew)); exact HO_7.out⟩, ⟨by (with_reducible repeat (first | apply Kd.R_alloc | apply Kd.R_drewN | apply Kd.R_drew)); exact HO_241000.out⟩, ⟨by (with_reducible repeat (first | refine blk_drewN ?_ _ | refine blk_drew ?_ | refine blk_alloc ?_ _)); exact BK236.out⟩, ⟨by (with_reducible repeat (first | refine blk_drewN ?_ _ | refine blk_drew ?_ | refine blk_alloc ?_ _)); exact BK240.out⟩, ⟨by repeat (first | (with_reducible first | exact HB.out | apply below_alloc | apply pw_below_drewN | apply below_drew1 | refine below_set ?_ GE236.out | refine below_set ?_ GE240.out) | exact HB.out)⟩⟩
            ·replace c18 := Bool.eq_false_iff.mpr c18
             subst c18
             have H1 : ((slices_IndexFunc_177_at_175_3_184.f k2 (rd_L3 l0 x19_2) a1 x241000_2).bind fun t243 => (if t243 ≥ 0 then (if x7_2.length < 5864062014805 then (fixpoint_derivations.l1 k2 l0 (x7_2 ++ [(⟨x19_2, t243, a1⟩ : S182)]) true l0 (l0.length : Int) (wrap64 (x19_2 + 1)) a1 (x241000_2.set (x19_2 : Int).toNat true)) else (none)) else (fixpoint_derivations.l1 k2 l0 x7_2 x8_2 l0 (l0.length : Int) (wrap64 (x19_2 + 1)) a1 x241000_2))) = some r := by rw [if_neg (show ¬ (false = true) by decide)] at H; exact H
             clear H
             have H := H1
             clear H1
             replace H := Option.bind_eq_some_iff.mp H
             obtain ⟨t243, A220, H⟩ := H
             replace H : (if t243 ≥ 0 then (if x7_2.length < 5864062014805 then (fixpoint_derivations.l1 k2 l0 (x7_2 ++ [(⟨x19_2, t243, a1⟩ : S182)]) true l0 (l0.length : Int) (wrap64 (x19_2 + 1)) a1 (x241000_2.set (x19_2 : Int).toNat true)) else (none)) else (fixpoint_derivations.l1 k2 l0 x7_2 x8_2 l0 (l0.length : Int) (wrap64 (x19_2 + 1)) a1 x241000_2)) = some r := H
             have A22 := Aside0.mk A220
             clear A220
             by_cases c23 : t243 ≥ 0
             ·rw [if_pos c23] at H
              have c23b0 : decide (0 ≤ t243) = true := decide_eq_true c23
              clear c23
              obtain ⟨y244, hy244⟩ : ∃ y_ : List Bool, y_ = (x241000_2.set (x19_2 : Int).toNat true) := ⟨_, rfl⟩
              replace H : (if x7_2.length < 5864062014805 then (fixpoint_derivations.l1 k2 l0 (x7_2 ++ [(⟨x19_2, t243, a1⟩ : S182)]) true l0 (l0.length : Int) (wrap64 (x19_2 + 1)) a1 y244) else (none)) = some r := by first | (rw [hy244]; with_reducible exact H) | (have H2_ := (Option.bind_some _ _).symm.trans H; rw [hy244]; with_reducible exact H2_) | (have H2_ := (Option.bind_some _ _).symm.trans H; with_reducible exact H2_) | with_reducible exact H | (rw [hy244]; exact H) | exact H
              have Ny244 := Aside0.mk hy244
              clear hy244
              by_cases c25 : x7_2.length < 5864062014805
              ·rw [if_pos c25] at H
               have LMc25 := Aside0.mk c25
               clear c25
               obtain ⟨y245, hy245⟩ : ∃ y_ : List (S182), y_ = (x7_2 ++ [(⟨x19_2, t243, a1⟩ : S182)]) := ⟨_, rfl⟩
               replace H : (fixpoint_derivations.l1 k2 l0 y245 true l0 (l0.length : Int) (wrap64 (x19_2 + 1)) a1 y244) = some r := by first | (rw [hy245]; with_reducible exact H) | (have H2_ := (Option.bind_some _ _).symm.trans H; rw [hy245]; with_reducible exact H2_) | (have H2_ := (Option.bind_some _ _).symm.trans H; with_reducible exact H2_) | with_reducible exact H | (rw [hy245]; exact H) | exact H
               have Ny245 := Aside0.mk hy245
               clear hy245
               have H' := Aside0.mk H
               clear H
               have p241 : 0 ≤ (x19_2 : Int) := of_decide_eq_true (by first | (with_reducible assumption) | assumption)
               have q241 : x19_2 < (l0.length : Int) := of_decide_eq_true (by first | (with_reducible assumption) | assumption)
               obtain ⟨ad241, A241_0, c241_0, e241, hx241_0, hl241_0, hi241_0⟩ := at_L3 HR0.out x19_2 p241 q241
               cases e241
               replace hx241_0 := (HB.out.cell (World.block_lt_of_cell? w _ hx241_0)).trans hx241_0
               have HR241_0 := Aside0.mk hi241_0
               have HC241_0 := Aside0.mk hl241_0
               clear hi241_0 hl241_0
               replace p241 := eq_true p241
               replace q241 := eq_true q241
               have hnb26 := NB240_236.out
               have hnc26 := NB236_240.out
               have hcz27_0 : wr.cell? ⟨gb240, 0, none⟩ = some (u241000) := (blk_cell BK240.out 0).trans rfl
               have hfz27_0 := blk_frozen BK240.out 0
               obtain ⟨Ao28, co28, eo28⟩ := Kd.R_slice HO_241000.out
               subst eo28
               have p242 : 0 ≤ (x19_2 : Int) := of_decide_eq_true (by first | (with_reducible assumption) | assumption)
               have q242 : x19_2 < (x241000_2.length : Int) := of_decide_eq_true (by first | (with_reducible assumption) | assumption)
               obtain ⟨ad242, e242, hx242_0⟩ := Kd.at_bool (Kd.R_reads' HO_241000.out).2.2 x19_2 p242 q242
               (try rw [← Nbq17.out] at hx242_0)
               cases e242
               replace p242 := eq_true p242
               replace q242 := eq_true q242
               go_wp2_with (first | (go_at_call 177; (with_reducible refine (slices_IndexFunc_177_at_175_3_184.calls k2 _ _ (rd_L3 l0 x19_2) _ _ a1 (some ad242) co28 x241000_2 t243 _ ?side1 ?side2 ?side3 ?side4 ?side5 ?side6 A22.out).mono ?_); (case side1 => repeat (first | exact (Kd.C_below HR241_0.out HB.out) | (with_reducible refine Kd.C_alloc ?_ _) | (with_reducible refine Kd.C_drewN ?_ _) | (with_reducible refine Kd.C_drew ?_))); (case side2 => exact HC241_0.out); (case side3 => repeat (first | exact (Kd.R_reads' HO_241000.out).2.2 | (with_reducible refine Kd.C_alloc ?_ _) | (with_reducible refine Kd.C_drewN ?_ _) | (with_reducible refine Kd.C_drew ?_))); (case side4 => exact (Kd.R_reads' HO_241000.out).2.1); (case side5 => exact (by (with_reducible repeat (first | refine blk_drewN ?_ _ | refine blk_drew ?_ | refine blk_alloc ?_ _)); exact BK236.out)); (case side6 => exact (by (with_reducible repeat (first | refine blk_drewN ?_ _ | refine blk_drew ?_ | refine blk_alloc ?_ _)); exact BK240.out)); rintro e w29 ⟨rfl, hb⟩; have n0_ := Aside0.mk (Kd.R_below (by (with_reducible repeat (first | apply Kd.R_alloc | apply Kd.R_drewN | apply Kd.R_drew)); exact HO_7.out) hb); have n1_ := Aside0.mk (Kd.R_below (by (with_reducible repeat (first | apply Kd.R_alloc | apply Kd.R_drewN | apply Kd.R_drew)); exact HO_241000.out) hb); have n2_ := Aside0.mk (blk_below (g := gb236) (o := .cells #[.int .i64 a1] 3 (0, 0)) (by (with_reducible repeat (first | refine blk_drewN ?_ _ | refine blk_drew ?_ | refine blk_alloc ?_ _)); exact BK236.out) hb); have n3_ := Aside0.mk (blk_below (g := gb240) (o := .cells #[.slice (some ad242) x241000_2.length co28] 184 (0, 0)) (by (with_reducible repeat (first | refine blk_drewN ?_ _ | refine blk_drew ?_ | refine blk_alloc ?_ _)); exact BK240.out) hb); have n4_ := Aside0.mk (below_step (by repeat (first | (with_reducible first | exact HB.out | apply below_alloc | apply pw_below_drewN | apply below_drew1 | refine below_set ?_ GE236.out | refine below_set ?_ GE240.out) | exact HB.out)) hb); clear HO_7; clear HO_241000; clear BK236; clear BK240; clear HB; have HO_7 := n0_; have HO_241000 := n1_; have BK236 := n2_; have BK240 := n3_; have HB := n4_; clear n0_ n1_ n2_ n3_ n4_; (try clear hb); (try clear hb2); (try clear hk); (try clear hi); have hcz30_0 : w29.cell? ⟨gb240, 0, none⟩ = some (.slice (some ad242) x241000_2.length co28) := (blk_cell BK240.out 0).trans rfl; have hfz30_0 := blk_frozen BK240.out 0; have p24 : 0 ≤ (x19_2 : Int) := of_decide_eq_true (by first | (with_reducible assumption) | assumption); have q24 : (x19_2 : Int) < ((x241000_2.length : Int) : Int) := of_decide_eq_true (by first | (with_reducible assumption) | assumption); obtain ⟨go24, co24, eo24, gb24, gl24, cl24, HG24⟩ := Kd.R_form HO_241000.out (by omega); (first | cases eo24 | (injection eo24 with ea_ en_ ec_; (first | subst ea_ | (injection ea_ with ea_; subst ea_)); subst ec_; clear en_)); have GB24 := Aside0.mk gb24; have GG24 := Aside0.mk HG24; clear gb24 gl24 HG24; (first | simp only [add_plain] at hx242_0 | skip); obtain ⟨hx24_0, hf24_0⟩ := Kd.R_celln false HO_241000.out (x19_2 : Int) p24 q24; replace p24 := eq_true p24; replace q24 := eq_true q24; obtain ⟨hy31_, hz31_⟩ := Kd.R_celln false HO_241000.out (x19_2 : Int) (of_decide_eq_true (by first | (with_reducible assumption) | assumption)) (of_decide_eq_true (by first | (with_reducible assumption) | assumption)); have HP31 := Kd.R_putg HO_241000.out (x19_2 : Int) true) | ((with_reducible refine gate_store (t := 4) (p := 35) rfl ?_); refine store_event (t := 4) (p := 35) (v := ?vo_w32) (w1 := (w29.setCell ⟨go24, (x19_2 : Int).toNat, none⟩ (.bool true))) ?hg ?ho ?hn ?hr ?_; (case ho => rfl); (case hg => rfl); (case hn => rfl); (case hr => first | (go_simp; done) | (go_simp; rfl)); intro w32 hw; have hg : w29.grownBy w32 (some go24) := (by rw [hw]; exact HP31.2); have hp_ : Kd.R Kd.bool 4 w32 w.heap.size (fun _ => True) (.slice (some ⟨go24, 0, none⟩) x241000_2.length co28) y244 := (by rw [hw, Ny244.out]; exact HP31.1); clear HP31; have n0_ := Aside0.mk (Kd.R_over' (v := (.slice (some ⟨go24, 0, none⟩) x241000_2.length co28)) (by (with_reducible repeat (first | apply Kd.R_alloc | apply Kd.R_drewN | apply Kd.R_drew)); exact HO_7.out) (Kd.R_typed HO_241000.out) (by decide) hg); have n1_ := Aside0.mk (hp_); have n2_ := Aside0.mk (blk_grown (g := gb236) (o := .cells #[.int .i64 a1] 3 (0, 0)) (by (with_reducible repeat (first | refine blk_drewN ?_ _ | refine blk_drew ?_ | refine blk_alloc ?_ _)); exact BK236.out) hg (Kd.R_ne HO_241000.out BK236.out (by decide))); have n3_ := Aside0.mk (blk_grown (g := gb240) (o := .cells #[.slice (some ⟨go24, 0, none⟩) x241000_2.length co28] 184 (0, 0)) (by (with_reducible repeat (first | refine blk_drewN ?_ _ | refine blk_drew ?_ | refine blk_alloc ?_ _)); exact BK240.out) hg (Kd.R_ne HO_241000.out BK240.out (by decide))); have n4_ := Aside0.mk ((by rw [hw]; exact below_set (HB.out) GB24.out : Below w.heap.size w w32)); clear HO_7; clear HO_241000; clear BK236; clear BK240; clear HB; have HO_7 := n0_; have HO_241000 := n1_; have BK236 := n2_; have BK240 := n3_; have HB := n4_; clear n0_ n1_ n2_ n3_ n4_; clear hg hw hp_; have hcz33_0 : w32.cell? ⟨gb236, 0, none⟩ = some (.int .i64 a1) := (blk_cell BK236.out 0).trans rfl; have hfz33_0 := blk_frozen BK236.out 0) | ((with_reducible refine gate_builtin (b := .append) (xs := #[.tmp 36, .tmp 41]) rfl ?_); at_builtin; refine Kd.R_append k182 (w0 := w) w.heap.size rfl (.tmp 36) (.tmp 41) 69 182 (.agg #[(.int .i64 0), (.int .i64 0), (.int .i64 0)]) 24 rfl Try.underlying69 info182 rfl (by decide) (by omega) u7 x7_2 (⟨x19_2, t243, a1⟩ : S182) [.int .i64 x19_2, .int .i64 t243, .int .i64 a1] (fun _ => True) (fun _ => False) rfl rfl ?aP (fun _ hk => hk.elim) ?aF ?aO ?aB ?aS ?aL ?_; (case aP => exact k182_mkM _ _ _ (⟨x19_2, t243, a1⟩ : S182)); (case aB => exact (by repeat (first | (with_reducible first | exact HB.out | apply below_alloc | apply pw_below_drewN | apply below_drew1 | refine below_set ?_ GE236.out | refine below_set ?_ GE240.out) | exact HB.out))); (case aF => exact (fun _ _ => trivial)); (case aO => exact (by (with_reducible repeat (first | apply Kd.R_alloc | apply Kd.R_drewN | apply Kd.R_drew)); exact HO_7.out)); (case aS => exact (below_size (by repeat (first | (with_reducible first | exact HB.out | apply below_alloc | apply pw_below_drewN | apply below_drew1 | refine below_set ?_ GE236.out | refine below_set ?_ GE240.out) | exact HB.out)))); (case aL => have := LMc25.out; omega); intro v246 w34 ho hb hg hat; rw [← Ny245.out] at ho; have n0_ := Aside0.mk (Kd.R_over' (by (with_reducible repeat (first | apply Kd.R_alloc | apply Kd.R_drewN | apply Kd.R_drew)); exact HO_241000.out) (Kd.R_typed (by (with_reducible repeat (first | apply Kd.R_alloc | apply Kd.R_drewN | apply Kd.R_drew)); exact HO_7.out)) (by decide) hg); have n1_ := Aside0.mk (blk_grown (g := gb236) (o := .cells #[.int .i64 a1] 3 (0, 0)) (by (with_reducible repeat (first | refine blk_drewN ?_ _ | refine blk_drew ?_ | refine blk_alloc ?_ _)); exact BK236.out) hg (Kd.R_ne HO_7.out BK236.out (by decide))); have n2_ := Aside0.mk (blk_grown (g := gb240) (o := .cells #[.slice (some ⟨go24, 0, none⟩) x241000_2.length co28] 184 (0, 0)) (by (with_reducible repeat (first | refine blk_drewN ?_ _ | refine blk_drew ?_ | refine blk_alloc ?_ _)); exact BK240.out) hg (Kd.R_ne HO_7.out BK240.out (by decide))); have n3_ := Aside0.mk (hb); have n4_ := Aside0.mk (ho); clear HO_241000; clear BK236; clear BK240; clear HB; clear HO_7; have HO_241000 := n0_; have BK236 := n1_; have BK240 := n2_; have HB := n3_; have HO247 := n4_; clear n0_ n1_ n2_ n3_ n4_; clear ho hb hg hat))
               go_roundg k2
               case measure => have := HK1.out; have := HK2.out; omega
               case rel => exact ⟨(y245), (true), (wrap64 (x19_2 + 1)), (y244), (.slice (some ⟨go24, 0, none⟩) x241000_2.length co28), (by first | rfl | (simp; done) | (simp [*]; done) | (simp [isEmpty_bne]; done)), (by first | rfl | (simp; done) | (simp [*]; done) | (simp [isEmpty_bne]; done)), H', ⟨by have := HK1.out; have := HK2.out; omega⟩, ⟨by (with_reducible repeat (first | apply Kd.R_alloc | apply Kd.R_drewN | apply Kd.R_drew)); exact HO247.out⟩, ⟨by (with_reducible repeat (first | apply Kd.R_alloc | apply Kd.R_drewN | apply Kd.R_drew)); exact HO_241000.out⟩, ⟨by (with_reducible repeat (first | refine blk_drewN ?_ _ | refine blk_drew ?_ | refine blk_alloc ?_ _)); exact BK236.out⟩, ⟨by (with_reducible repeat (first | refine blk_drewN ?_ _ | refine blk_drew ?_ | refine blk_alloc ?_ _)); exact BK240.out⟩, ⟨by repeat (first | (with_reducible first | exact HB.out | apply below_alloc | apply pw_below_drewN | apply below_drew1 | refine below_set ?_ GE236.out | refine below_set ?_ GE240.out) | exact HB.out)⟩⟩
              ·rw [if_neg c25] at H
               exact absurd H (by simp)
             ·rw [if_neg c23] at H
              have c23b0 : decide (0 ≤ t243) = false := decide_eq_false c23
              clear c23
              have H' := Aside0.mk H
              clear H
              have p241 : 0 ≤ (x19_2 : Int) := of_decide_eq_true (by first | (with_reducible assumption) | assumption)
              have q241 : x19_2 < (l0.length : Int) := of_decide_eq_true (by first | (with_reducible assumption) | assumption)
              obtain ⟨ad241, A241_0, c241_0, e241, hx241_0, hl241_0, hi241_0⟩ := at_L3 HR0.out x19_2 p241 q241
              cases e241
              replace hx241_0 := (HB.out.cell (World.block_lt_of_cell? w _ hx241_0)).trans hx241_0
              have HR241_0 := Aside0.mk hi241_0
              have HC241_0 := Aside0.mk hl241_0
              clear hi241_0 hl241_0
              replace p241 := eq_true p241
              replace q241 := eq_true q241
              have hnb35 := NB240_236.out
              have hnc35 := NB236_240.out
              have hcz36_0 : wr.cell? ⟨gb240, 0, none⟩ = some (u241000) := (blk_cell BK240.out 0).trans rfl
              have hfz36_0 := blk_frozen BK240.out 0
              obtain ⟨Ao37, co37, eo37⟩ := Kd.R_slice HO_241000.out
              subst eo37
              have p242 : 0 ≤ (x19_2 : Int) := of_decide_eq_true (by first | (with_reducible assumption) | assumption)
              have q242 : x19_2 < (x241000_2.length : Int) := of_decide_eq_true (by first | (with_reducible assumption) | assumption)
              obtain ⟨ad242, e242, hx242_0⟩ := Kd.at_bool (Kd.R_reads' HO_241000.out).2.2 x19_2 p242 q242
              (try rw [← Nbq17.out] at hx242_0)
              cases e242
              replace p242 := eq_true p242
              replace q242 := eq_true q242
              go_wp2_with (first | (go_at_call 177; (with_reducible refine (slices_IndexFunc_177_at_175_3_184.calls k2 _ _ (rd_L3 l0 x19_2) _ _ a1 (some ad242) co37 x241000_2 t243 _ ?side1 ?side2 ?side3 ?side4 ?side5 ?side6 A22.out).mono ?_); (case side1 => repeat (first | exact (Kd.C_below HR241_0.out HB.out) | (with_reducible refine Kd.C_alloc ?_ _) | (with_reducible refine Kd.C_drewN ?_ _) | (with_reducible refine Kd.C_drew ?_))); (case side2 => exact HC241_0.out); (case side3 => repeat (first | exact (Kd.R_reads' HO_241000.out).2.2 | (with_reducible refine Kd.C_alloc ?_ _) | (with_reducible refine Kd.C_drewN ?_ _) | (with_reducible refine Kd.C_drew ?_))); (case side4 => exact (Kd.R_reads' HO_241000.out).2.1); (case side5 => exact (by (with_reducible repeat (first | refine blk_drewN ?_ _ | refine blk_drew ?_ | refine blk_alloc ?_ _)); exact BK236.out)); (case side6 => exact (by (with_reducible repeat (first | refine blk_drewN ?_ _ | refine blk_drew ?_ | refine blk_alloc ?_ _)); exact BK240.out)); rintro e w38 ⟨rfl, hb⟩; have n0_ := Aside0.mk (Kd.R_below (by (with_reducible repeat (first | apply Kd.R_alloc | apply Kd.R_drewN | apply Kd.R_drew)); exact HO_7.out) hb); have n1_ := Aside0.mk (Kd.R_below (by (with_reducible repeat (first | apply Kd.R_alloc | apply Kd.R_drewN | apply Kd.R_drew)); exact HO_241000.out) hb); have n2_ := Aside0.mk (blk_below (g := gb236) (o := .cells #[.int .i64 a1] 3 (0, 0)) (by (with_reducible repeat (first | refine blk_drewN ?_ _ | refine blk_drew ?_ | refine blk_alloc ?_ _)); exact BK236.out) hb); have n3_ := Aside0.mk (blk_below (g := gb240) (o := .cells #[.slice (some ad242) x241000_2.length co37] 184 (0, 0)) (by (with_reducible repeat (first | refine blk_drewN ?_ _ | refine blk_drew ?_ | refine blk_alloc ?_ _)); exact BK240.out) hb); have n4_ := Aside0.mk (below_step (by repeat (first | (with_reducible first | exact HB.out | apply below_alloc | apply pw_below_drewN | apply below_drew1 | refine below_set ?_ GE236.out | refine below_set ?_ GE240.out) | exact HB.out)) hb); clear HO_7; clear HO_241000; clear BK236; clear BK240; clear HB; have HO_7 := n0_; have HO_241000 := n1_; have BK236 := n2_; have BK240 := n3_; have HB := n4_; clear n0_ n1_ n2_ n3_ n4_; (try clear hb); (try clear hb2); (try clear hk); (try clear hi)))
              go_roundg k2
              case measure => have := HK1.out; have := HK2.out; omega
              case rel => exact ⟨(x7_2), (x8_2), (wrap64 (x19_2 + 1)), (x241000_2), (.slice (some ad242) x241000_2.length co37), (by first | rfl | (simp; done) | (simp [*]; done) | (simp [isEmpty_bne]; done)), (by first | rfl | (simp; done) | (simp [*]; done) | (simp [isEmpty_bne]; done)), H', ⟨by have := HK1.out; have := HK2.out; omega⟩, ⟨by (with_reducible repeat (first | apply Kd.R_alloc | apply Kd.R_drewN | apply Kd.R_drew)); exact HO_7.out⟩, ⟨by (with_reducible repeat (first | apply Kd.R_alloc | apply Kd.R_drewN | apply Kd.R_drew)); exact HO_241000.out⟩, ⟨by (with_reducible repeat (first | refine blk_drewN ?_ _ | refine blk_drew ?_ | refine blk_alloc ?_ _)); exact BK236.out⟩, ⟨by (with_reducible repeat (first | refine blk_drewN ?_ _ | refine blk_drew ?_ | refine blk_alloc ?_ _)); exact BK240.out⟩, ⟨by repeat (first | (with_reducible first | exact HB.out | apply below_alloc | apply pw_below_drewN | apply below_drew1 | refine below_set ?_ GE236.out | refine below_set ?_ GE240.out) | exact HB.out)⟩⟩
           ·rw [if_neg c16] at H
            exact absurd H (by simp)
          ·rw [if_neg c15] at H
           exact absurd H (by simp)
         ·rw [if_neg c14] at H
          exact absurd H (by simp)
        ·rw [if_neg c13] at H
         have c13b0 : decide (x19_2 < (l0.length : Int)) = false := decide_eq_false c13
         clear c13
         have H' := Aside0.mk H
         clear H
         go_wp2
         go_roundg k2
         case measure => have := HK1.out; have := HK2.out; omega
         case rel => exact ⟨(x7_2), (x8_2), (x241000_2), (u241000), (by first | rfl | (simp; done) | (simp [*]; done) | (simp [isEmpty_bne]; done)), H', ⟨by have := HK1.out; have := HK2.out; omega⟩, ⟨by (with_reducible repeat (first | apply Kd.R_alloc | apply Kd.R_drewN | apply Kd.R_drew)); exact HO_7.out⟩, ⟨by (with_reducible repeat (first | apply Kd.R_alloc | apply Kd.R_drewN | apply Kd.R_drew)); exact HO_241000.out⟩, ⟨by (with_reducible repeat (first | refine blk_drewN ?_ _ | refine blk_drew ?_ | refine blk_alloc ?_ _)); exact BK236.out⟩, ⟨by (with_reducible repeat (first | refine blk_drewN ?_ _ | refine blk_drew ?_ | refine blk_alloc ?_ _)); exact BK240.out⟩, ⟨by repeat (first | (with_reducible first | exact HB.out | apply below_alloc | apply pw_below_drewN | apply below_drew1 | refine below_set ?_ GE236.out | refine below_set ?_ GE240.out) | exact HB.out)⟩⟩
     ·replace c12 := Bool.eq_false_iff.mpr c12
      subst c12
      have H1 : (some x7_1) = some r := by rw [if_neg (show ¬ (false = true) by decide)] at H; exact H
      clear H
      have H := H1
      clear H1
      obtain rfl := Option.some.inj H
      go_wp2
      go_ret
      exact ⟨_, by first | rfl | (simp [errW_none, errW_some] <;> rfl) | (simp [*, errW_none, errW_some] <;> rfl), by (with_reducible repeat (first | apply Kd.R_alloc | apply Kd.R_drewN | apply Kd.R_drew)); exact HO_7.out, by repeat (first | (with_reducible first | exact HB.out | apply below_alloc | apply pw_below_drewN | apply below_drew1 | refine below_set ?_ GE236.out | refine below_set ?_ GE240.out) | exact HB.out)⟩
  ·rw [if_neg c4] at H
   exact absurd H (by simp)
 ·rw [if_neg c3] at H
  exact absurd H (by simp)

-- NOT PRINTED: function 105 (api_QDerivation_105)

-- NOT PRINTED: function 107 (api_QDerivation_107)

/-! ### api_QDerivation_108: function 108 -/
def api_QDerivation_108.l0 : Nat → List (S182) → Int → Int → Option ((List (S182)))
 | 0, _, _, _ => none
 | k + 1, x0, x2, x3 => if x2 < x3 then (if 0 ≤ x3 then (if x3 < (x0.length : Int) then (if 0 ≤ x2 then (if x2 < (x0.length : Int) then (api_QDerivation_108.l0 k ((x0.set (x2 : Int).toNat (⟨(rd_T182 x0 x3).f0, (rd_T182 x0 x3).f1, (rd_T182 x0 x3).f2⟩ : S182)).set (x3 : Int).toNat (⟨(rd_T182 x0 x2).f0, (rd_T182 x0 x2).f1, (rd_T182 x0 x2).f2⟩ : S182)) (wrap64 (x2 + 1)) (wrap64 (x3 - 1))) else (none)) else (none)) else (none)) else (none)) else (some x0)
def api_QDerivation_108.f (k : Nat) (l0 : List (S182)) : Option ((List (S182))) := api_QDerivation_108.l0 k l0 0 (wrap64 ((l0.length : Int) - 1))
theorem api_QDerivation_108.mono_l : ∀ k, (∀ y0 y1 y2, LeO (api_QDerivation_108.l0 k y0 y1 y2) (api_QDerivation_108.l0 (k + 1) y0 y1 y2))
 | 0 => fun _ _ _ r h => by simp [api_QDerivation_108.l0] at h
 | k + 1 => by
  have ih0 := api_QDerivation_108.mono_l k
  ·intro y0 y1 y2
   unfold api_QDerivation_108.l0
   repeat' first
   | (with_reducible exact ih0 _ _ _)
   | (with_reducible exact LeO.refl _)
   | (with_reducible exact LeO.none _)
   | (with_reducible refine LeO.ite ?_ ?_)
   | (with_reducible refine LeO.bind ?_ (fun _ => ?_))
   | exact ih0 _ _ _
   | exact LeO.none _
   | refine LeO.ite ?_ ?_
   | refine LeO.bind ?_ (fun _ => ?_)
theorem api_QDerivation_108.mono : ∀ a0 k, LeO (api_QDerivation_108.f k a0) (api_QDerivation_108.f (k + 1) a0) := by
 intro a0 k
 have ih0 := api_QDerivation_108.mono_l k
 unfold api_QDerivation_108.f
 repeat' first
   | (with_reducible exact ih0 _ _ _)
   | (with_reducible exact LeO.refl _)
   | (with_reducible exact LeO.none _)
   | (with_reducible refine LeO.ite ?_ ?_)
   | (with_reducible refine LeO.bind ?_ (fun _ => ?_))
   | exact ih0 _ _ _
   | exact LeO.none _
   | refine LeO.ite ?_ ?_
   | refine LeO.bind ?_ (fun _ => ?_)
def api_QDerivation_108.T3 : Bool × List (List Nat × List Nat) := (true, [([], []), ([], []), ([], []), ([], []), ([], []), ([], []), ([4, 5], [4, 5]), ([6], [6]), ([], []), ([], []), ([8, 9], [8, 9]), ([10], [10]), ([0, 1, 0, 1, 4, 5, 6, 7, 11], [0, 1]), ([12, 7, 0, 1, 4, 5, 6, 7, 11], [7, 12]), ([2, 3, 0, 1, 2, 3, 4, 5, 6, 7, 8, 9, 10, 11, 12, 13], [2, 3]), ([14, 11, 13, 0, 1, 2, 3, 4, 5, 6, 7, 8, 9, 10, 11, 12, 13], [11, 14])])
def api_QDerivation_108.B3 : List Nat := [0, 0, 0, 0, 0, 0, 48, 112, 0, 0, 768, 1792, 4083, 8179, 16383, 32767]
theorem api_QDerivation_108.tab3 : rtab .any (opsOf Try.f108 3) = api_QDerivation_108.T3 := by kernel_rfl
theorem api_QDerivation_108.bits3 : waitsOk api_QDerivation_108.T3.2 api_QDerivation_108.B3 = true := by kernel_rfl
set_option maxHeartbeats 8000000 in
set_option maxRecDepth 100000 in
theorem api_QDerivation_108.calls (k : Nat) (P0_ : Nat → Prop) (u9000_ : Value) (l0 : List (S182)) (r : List (S182)) (w0 w : World) (hB : Below w0.heap.size w0 w) (ho0 : Kd.R k182 182 w w0.heap.size P0_ u9000_ l0) (h : api_QDerivation_108.f k l0 = some r) :
  Calls Try.prog 108 #[u9000_] w fun e w' => e = .returned (.tuple #[]) ∧ Kd.R k182 182 w' w0.heap.size (fun k_ => (P0_ k_ ∨ w.heap.size ≤ k_)) u9000_ r ∧ Below w0.heap.size w0 w' ∧ Kept w w' (fun k_ => P0_ k_) := by
 have hu182 := Try.underlying182
 have HO0 := Aside0.mk (show Kd.R k182 182 w w0.heap.size (fun k_ => (P0_ k_ ∨ w.heap.size ≤ k_)) u9000_ l0 from Kd.R_mono ho0 (fun k_ hk => (.inl hk)))
 have HK := Aside0.mk (Kept.refl w (fun k_ => P0_ k_))
 have HW0 := Aside0.mk hB.size
 have HB := Aside0.mk hB
 clear hB
 have H : (api_QDerivation_108.l0 k l0 0 (wrap64 ((l0.length : Int) - 1))) = some r := h
 clear h
 have H' := Aside0.mk H
 clear H
 obtain ⟨Ao2, co2, eo2⟩ := Kd.R_slice HO0.out
 subst eo2
 go_enter Try.func108, Try.ntmps108
 go_wp2
 go_loopg [2, 3] k (fun kq v2 v3 w' => ∃ (x0_1 : List (S182)) (x2_1 : Int) (x3_1 : Int), v2 = .int .i64 x2_1 ∧ v3 = .int .i64 x3_1 ∧ Aside0 (api_QDerivation_108.l0 kq x0_1 x2_1 x3_1 = some r) ∧ Aside0 (kq ≤ k) ∧ Aside0 (Kd.R k182 182 w' w0.heap.size (fun k_ => (P0_ k_ ∨ w.heap.size ≤ k_)) (.slice Ao2 l0.length co2) x0_1) ∧ Aside0 (Kept w w' (fun k_ => P0_ k_)) ∧ Aside0 (Below w0.heap.size w0 w'))
 case atStart => exact ⟨(l0), (0), (wrap64 ((l0.length : Int) - 1)), (by first | rfl | (simp; done) | (simp [*]; done) | (simp [isEmpty_bne]; done)), (by first | rfl | (simp; done) | (simp [*]; done) | (simp [isEmpty_bne]; done)), H', ⟨Nat.le_refl _⟩, ⟨by (with_reducible repeat (first | apply Kd.R_alloc | apply Kd.R_drewN | apply Kd.R_drew)); exact HO0.out⟩, ⟨by repeat (first | (with_reducible first | exact HK.out | apply Kept.alloc | apply Kept.drewN | apply Kept.drew) | exact HK.out)⟩, ⟨by repeat (first | (with_reducible first | exact HB.out | apply below_alloc | apply pw_below_drewN | apply below_drew1) | exact HB.out)⟩⟩
 case round =>
  clear H'
  try clear c1
  try clear p2
  obtain ⟨x0_1, x2_1, x3_1, rfl, rfl, HA, HK1, HO_0, HK, HB⟩ := hrel
  have hl0_1 := (Kd.R_reads' HO_0.out).1
  rw [hl0_1] at HO_0
  (try simp only [hl0_1])
  cases gk with
  | zero => exact absurd HA.out (by simp [api_QDerivation_108.l0])
  | succ k1 =>
   have H := HA.out
   clear HA
   simp only [api_QDerivation_108.l0] at H
   by_cases c3 : x2_1 < x3_1
   ·rw [if_pos c3] at H
    have c3b0 : decide (x2_1 < x3_1) = true := decide_eq_true c3
    clear c3
    by_cases c4 : 0 ≤ x3_1
    ·rw [if_pos c4] at H
     have c4b0 : decide (0 ≤ x3_1) = true := decide_eq_true c4
     clear c4
     by_cases c5 : x3_1 < (x0_1.length : Int)
     ·rw [if_pos c5] at H
      have c5b0 : decide (x3_1 < (x0_1.length : Int)) = true := decide_eq_true c5
      try (have c5b0qhl0_1 := c5b0; rw [hl0_1] at c5b0qhl0_1)
      clear c5
      by_cases c6 : 0 ≤ x2_1
      ·rw [if_pos c6] at H
       have c6b0 : decide (0 ≤ x2_1) = true := decide_eq_true c6
       clear c6
       by_cases c7 : x2_1 < (x0_1.length : Int)
       ·rw [if_pos c7] at H
        have c7b0 : decide (x2_1 < (x0_1.length : Int)) = true := decide_eq_true c7
        try (have c7b0qhl0_1 := c7b0; rw [hl0_1] at c7b0qhl0_1)
        clear c7
        obtain ⟨y250, hy250⟩ : ∃ y_ : List (S182), y_ = (x0_1.set (x2_1 : Int).toNat (⟨(rd_T182 x0_1 x3_1).f0, (rd_T182 x0_1 x3_1).f1, (rd_T182 x0_1 x3_1).f2⟩ : S182)) := ⟨_, rfl⟩
        replace H : (api_QDerivation_108.l0 k1 (y250.set (x3_1 : Int).toNat (⟨(rd_T182 x0_1 x2_1).f0, (rd_T182 x0_1 x2_1).f1, (rd_T182 x0_1 x2_1).f2⟩ : S182)) (wrap64 (x2_1 + 1)) (wrap64 (x3_1 - 1))) = some r := by first | (rw [hy250]; with_reducible exact H) | (have H2_ := (Option.bind_some _ _).symm.trans H; rw [hy250]; with_reducible exact H2_) | (have H2_ := (Option.bind_some _ _).symm.trans H; with_reducible exact H2_) | with_reducible exact H | (rw [hy250]; exact H) | exact H
        have Ny250 := Aside0.mk hy250
        clear hy250
        obtain ⟨y251, hy251⟩ : ∃ y_ : List (S182), y_ = (y250.set (x3_1 : Int).toNat (⟨(rd_T182 x0_1 x2_1).f0, (rd_T182 x0_1 x2_1).f1, (rd_T182 x0_1 x2_1).f2⟩ : S182)) := ⟨_, rfl⟩
        replace H : (api_QDerivation_108.l0 k1 y251 (wrap64 (x2_1 + 1)) (wrap64 (x3_1 - 1))) = some r := by first | (rw [hy251]; with_reducible exact H) | (have H2_ := (Option.bind_some _ _).symm.trans H; rw [hy251]; with_reducible exact H2_) | (have H2_ := (Option.bind_some _ _).symm.trans H; with_reducible exact H2_) | with_reducible exact H | (rw [hy251]; exact H) | exact H
        have Ny251 := Aside0.mk hy251
        clear hy251
        have H' := Aside0.mk H
        clear H
        try go_wp2
        have n0_ := Aside0.mk (Kd.R_drew HO_0.out)
        have n1_ := Aside0.mk (Kept.drew HK.out)
        have n2_ := Aside0.mk (below_drew1 HB.out)
        clear HO_0
        clear HK
        clear HB
        have HO_0 := n0_
        have HK := n1_
        have HB := n2_
        clear n0_ n1_ n2_
        have p248 : 0 ≤ (x3_1 : Int) := of_decide_eq_true (by first | (with_reducible assumption) | assumption)
        have q248 : x3_1 < (x0_1.length : Int) := of_decide_eq_true (by first | (with_reducible assumption) | assumption)
        obtain ⟨ad248, e248, hx248_0, hx248_1, hx248_2⟩ := at_T182 (Kd.R_reads' HO_0.out).2.2 x3_1 p248 q248
        cases e248
        replace p248 := eq_true p248
        replace q248 := eq_true q248
        have p249 : 0 ≤ (x2_1 : Int) := of_decide_eq_true (by first | (with_reducible assumption) | assumption)
        have q249 : x2_1 < (x0_1.length : Int) := of_decide_eq_true (by first | (with_reducible assumption) | assumption)
        obtain ⟨ad249, e249, hx249_0, hx249_1, hx249_2⟩ := at_T182 (Kd.R_reads' HO_0.out).2.2 x2_1 p249 q249
        obtain rfl : ad248 = ad249 := (by injection e249)
        replace p249 := eq_true p249
        replace q249 := eq_true q249
        have p8 : 0 ≤ (x2_1 : Int) := of_decide_eq_true (by first | (with_reducible assumption) | assumption)
        have q8 : (x2_1 : Int) < ((x0_1.length : Int) : Int) := of_decide_eq_true (by first | (with_reducible assumption) | assumption)
        obtain ⟨go8, co8, eo8, gb8, gl8, cl8, HG8⟩ := Kd.R_form HO_0.out (by omega)
        (first | cases eo8 | (injection eo8 with ea_ en_ ec_; (first | subst ea_ | (injection ea_ with ea_; subst ea_)); subst ec_; clear en_))
        have GB8 := Aside0.mk gb8
        have GG8 := Aside0.mk HG8
        clear gb8 gl8 HG8
        have HMgo8 := Aside0.mk (show (P0_ go8 ∨ w.heap.size ≤ go8) from (HO_0.out.1 _ rfl))
        (first | simp only [add_plain] at hx248_0 | skip)
        (first | simp only [add_plain] at hx248_1 | skip)
        (first | simp only [add_plain] at hx248_2 | skip)
        (first | simp only [add_plain] at hx249_0 | skip)
        (first | simp only [add_plain] at hx249_1 | skip)
        (first | simp only [add_plain] at hx249_2 | skip)
        obtain ⟨ce8, hcl8, hM8, hcc8, hfr8⟩ := Kd.R_elem HO_0.out z182 (x2_1 : Int) p8 q8
        obtain rfl := k182_openM hM8
        have hx8_0 : World.cell? _ ⟨go8, (x2_1 : Int).toNat * 3, none⟩ = some (.int .i64 ((rd_T182 x0_1 x2_1).f0)) := hcc8 0 _ rfl
        have hx8_1 : World.cell? _ ⟨go8, (x2_1 : Int).toNat * 3 + 1, none⟩ = some (.int .i64 ((rd_T182 x0_1 x2_1).f1)) := hcc8 1 _ rfl
        have hx8_2 : World.cell? _ ⟨go8, (x2_1 : Int).toNat * 3 + 2, none⟩ = some (.int .i64 ((rd_T182 x0_1 x2_1).f2)) := hcc8 2 _ rfl
        have hf8_0 : World.frozen? _ ⟨go8, (x2_1 : Int).toNat * 3, none⟩ = false := hfr8 0
        have hf8_1 : World.frozen? _ ⟨go8, (x2_1 : Int).toNat * 3 + 1, none⟩ = false := hfr8 1
        have hf8_2 : World.frozen? _ ⟨go8, (x2_1 : Int).toNat * 3 + 2, none⟩ = false := hfr8 2
        clear hcl8 hcc8 hfr8 hM8
        replace p8 := eq_true p8
        replace q8 := eq_true q8
        obtain ⟨ce11, hcl11, hM11, hcc11, hfr11⟩ := Kd.R_elem HO_0.out z182 (x2_1 : Int) (of_decide_eq_true (by first | (with_reducible assumption) | assumption)) (by have h_ : (x2_1 : Int) < ((x0_1.length : Int) : Int) := of_decide_eq_true (by first | (with_reducible assumption) | assumption); first | exact h_ | (have e_ := (Kd.R_reads' HO_0.out).1; omega) | simpa using h_)
        obtain rfl := k182_openM hM11
        have HP11 := (Kd.R_seg HO_0.out (x2_1 : Int) (of_decide_eq_true (by first | (with_reducible assumption) | assumption)) (by have h_ : (x2_1 : Int) < ((x0_1.length : Int) : Int) := of_decide_eq_true (by first | (with_reducible assumption) | assumption); first | exact h_ | (have e_ := (Kd.R_reads' HO_0.out).1; omega) | simpa using h_) (seg := [.int .i64 ((rd_T182 x0_1 x3_1).f0), .int .i64 ((rd_T182 x0_1 x3_1).f1), .int .i64 ((rd_T182 x0_1 x3_1).f2)]) (j := 0) hcl11 hcc11 (show 3 ≤ 3 from by decide) (x' := (⟨(rd_T182 x0_1 x3_1).f0, (rd_T182 x0_1 x3_1).f1, (rd_T182 x0_1 x3_1).f2⟩ : S182)) (k182_mkM _ _ _ (⟨(rd_T182 x0_1 x3_1).f0, (rd_T182 x0_1 x3_1).f1, (rd_T182 x0_1 x3_1).f2⟩ : S182) ) (fun _ hk => hk)).1
        rw [← Ny250.out] at HP11
        have HQ11 := Aside0.mk HP11
        clear hcl11 hcc11 hfr11 hM11 HP11
        have p9 : 0 ≤ (x3_1 : Int) := of_decide_eq_true (by first | (with_reducible assumption) | assumption)
        have q9 : (x3_1 : Int) < ((x0_1.length : Int) : Int) := of_decide_eq_true (by first | (with_reducible assumption) | assumption)
        obtain ⟨ce9, hcl9, hM9, hcc9, hfr9⟩ := Kd.R_elem HQ11.out z182 (x3_1 : Int) p9 q9
        obtain rfl := k182_openM hM9
        have hx9_0 : World.cell? _ ⟨go8, (x3_1 : Int).toNat * 3, none⟩ = some (.int .i64 ((rd_T182 y250 x3_1).f0)) := hcc9 0 _ rfl
        have hx9_1 : World.cell? _ ⟨go8, (x3_1 : Int).toNat * 3 + 1, none⟩ = some (.int .i64 ((rd_T182 y250 x3_1).f1)) := hcc9 1 _ rfl
        have hx9_2 : World.cell? _ ⟨go8, (x3_1 : Int).toNat * 3 + 2, none⟩ = some (.int .i64 ((rd_T182 y250 x3_1).f2)) := hcc9 2 _ rfl
        have hf9_0 : World.frozen? _ ⟨go8, (x3_1 : Int).toNat * 3, none⟩ = false := hfr9 0
        have hf9_1 : World.frozen? _ ⟨go8, (x3_1 : Int).toNat * 3 + 1, none⟩ = false := hfr9 1
        have hf9_2 : World.frozen? _ ⟨go8, (x3_1 : Int).toNat * 3 + 2, none⟩ = false := hfr9 2
        clear hcl9 hcc9 hfr9 hM9
        replace p9 := eq_true p9
        replace q9 := eq_true q9
        obtain ⟨ce12, hcl12, hM12, hcc12, hfr12⟩ := Kd.R_elem HQ11.out z182 (x3_1 : Int) (of_decide_eq_true (by first | (with_reducible assumption) | assumption)) (by have h_ : (x3_1 : Int) < ((x0_1.length : Int) : Int) := of_decide_eq_true (by first | (with_reducible assumption) | assumption); first | exact h_ | (have e_ := (Kd.R_reads' HO_0.out).1; omega) | simpa using h_)
        obtain rfl := k182_openM hM12
        have HP12 := (Kd.R_seg HQ11.out (x3_1 : Int) (of_decide_eq_true (by first | (with_reducible assumption) | assumption)) (by have h_ : (x3_1 : Int) < ((x0_1.length : Int) : Int) := of_decide_eq_true (by first | (with_reducible assumption) | assumption); first | exact h_ | (have e_ := (Kd.R_reads' HO_0.out).1; omega) | simpa using h_) (seg := [.int .i64 ((rd_T182 x0_1 x2_1).f0), .int .i64 ((rd_T182 x0_1 x2_1).f1), .int .i64 ((rd_T182 x0_1 x2_1).f2)]) (j := 0) hcl12 hcc12 (show 3 ≤ 3 from by decide) (x' := (⟨(rd_T182 x0_1 x2_1).f0, (rd_T182 x0_1 x2_1).f1, (rd_T182 x0_1 x2_1).f2⟩ : S182)) (k182_mkM _ _ _ (⟨(rd_T182 x0_1 x2_1).f0, (rd_T182 x0_1 x2_1).f1, (rd_T182 x0_1 x2_1).f2⟩ : S182) ) (fun _ hk => hk)).1
        rw [← Ny251.out] at HP12
        have HQ12 := Aside0.mk HP12
        clear hcl12 hcc12 hfr12 hM12 HP12
        refine start_ (n := 16) (S := fun w' => w'.cell? ⟨go8, ((x3_1).toNat * 3), none⟩ = some (.int .i64 ((rd_T182 x0_1 x3_1).f0)) ∧ w'.cell? ⟨go8, ((x3_1).toNat * 3) + 1, none⟩ = some (.int .i64 ((rd_T182 x0_1 x3_1).f1)) ∧ w'.cell? ⟨go8, ((x3_1).toNat * 3) + 2, none⟩ = some (.int .i64 ((rd_T182 x0_1 x3_1).f2)) ∧ w'.cell? ⟨go8, ((x2_1).toNat * 3), none⟩ = some (.int .i64 ((rd_T182 x0_1 x2_1).f0)) ∧ w'.cell? ⟨go8, ((x2_1).toNat * 3) + 1, none⟩ = some (.int .i64 ((rd_T182 x0_1 x2_1).f1)) ∧ w'.cell? ⟨go8, ((x2_1).toNat * 3) + 2, none⟩ = some (.int .i64 ((rd_T182 x0_1 x2_1).f2))) (ds := [13, 15]) #[false, false, false, false, false, false, false, false, false, false, false, false, false, false, false, false] (by kernel_rfl) rfl rfl ⟨hx248_0, hx248_1, hx248_2, hx249_0, hx249_1, hx249_2⟩ (fun hHeld => ?_); refine with_tabW api_QDerivation_108.tab3 api_QDerivation_108.bits3 (fun HT_ HW_ => ?_)
        generalize wr.drew = w10 at HO_0 HK HB GG8 HQ11 HQ12 hf8_0 hf8_1 hf8_2 hf9_0 hf9_1 hf9_2 hx248_0 hx248_1 hx248_2 hx249_0 hx249_1 hx249_2 hx8_0 hx8_1 hx8_2 hx9_0 hx9_1 hx9_2 hHeld ⊢
        refine pure_ (i := 0) (N := some 14) (v := ?_) (a' := ?_) #[true, false, false, false, false, false, false, false, false, false, false, false, false, false, false, false] rfl rfl (any_of HT_.out (by kernel_rfl)) (fun _ _ _ h => h) (Or.inl ⟨by rfl, ?_⟩) ?_ ?_
        rotate_left
        ·intro w'
         go_simp
         with_reducible rfl
        rotate_left
        ·simp only [Act.put, List.setIfInBounds_toArray, List.set_cons_zero, List.set_cons_succ, i64_w, i32_w]
         rfl
        refine pure_ (i := 1) (N := some 15) (v := ?_) (a' := ?_) #[true, true, false, false, false, false, false, false, false, false, false, false, false, false, false, false] rfl rfl (any_of HT_.out (by kernel_rfl)) (fun _ _ _ h => h) (Or.inl ⟨by rfl, ?_⟩) ?_ ?_
        rotate_left
        ·intro w'
         go_simp
         with_reducible rfl
        rotate_left
        ·simp only [Act.put, List.setIfInBounds_toArray, List.set_cons_zero, List.set_cons_succ, i64_w, i32_w]
         rfl
        refine pure_ (i := 2) (N := some 16) (v := ?_) (a' := ?_) #[true, true, true, false, false, false, false, false, false, false, false, false, false, false, false, false] rfl rfl (any_of HT_.out (by kernel_rfl)) (fun _ _ _ h => h) (Or.inl ⟨by rfl, ?_⟩) ?_ ?_
        rotate_left
        ·intro w'
         go_simp
         with_reducible rfl
        rotate_left
        ·simp only [Act.put, List.setIfInBounds_toArray, List.set_cons_zero, List.set_cons_succ, i64_w, i32_w]
         rfl
        refine pure_ (i := 3) (N := some 17) (v := ?_) (a' := ?_) #[true, true, true, true, false, false, false, false, false, false, false, false, false, false, false, false] rfl rfl (any_of HT_.out (by kernel_rfl)) (fun _ _ _ h => h) (Or.inl ⟨by rfl, ?_⟩) ?_ ?_
        rotate_left
        ·intro w'
         go_simp
         with_reducible rfl
        rotate_left
        ·simp only [Act.put, List.setIfInBounds_toArray, List.set_cons_zero, List.set_cons_succ, i64_w, i32_w]
         rfl
        refine pure_ (i := 4) (N := some 18) (v := ?_) (a' := ?_) #[true, true, true, true, true, false, false, false, false, false, false, false, false, false, false, false] rfl rfl (any_of HT_.out (by kernel_rfl)) (fun _ _ _ h => h) (Or.inl ⟨by rfl, ?_⟩) ?_ ?_
        rotate_left
        ·intro w'
         go_simp
         with_reducible rfl
        rotate_left
        ·simp only [Act.put, List.setIfInBounds_toArray, List.set_cons_zero, List.set_cons_succ, i64_w, i32_w]
         rfl
        refine pure_ (i := 5) (N := some 19) (v := ?_) (a' := ?_) #[true, true, true, true, true, true, false, false, false, false, false, false, false, false, false, false] rfl rfl (any_of HT_.out (by kernel_rfl)) (fun _ _ _ h => h) (Or.inl ⟨by rfl, ?_⟩) ?_ ?_
        rotate_left
        ·intro w'
         go_simp
         with_reducible rfl
        rotate_left
        ·simp only [Act.put, List.setIfInBounds_toArray, List.set_cons_zero, List.set_cons_succ, i64_w, i32_w]
         rfl
        refine pure_ (i := 6) (N := some 20) (v := ?_) (a' := ?_) #[true, true, true, true, true, true, true, false, false, false, false, false, false, false, false, false] rfl rfl (any_of HT_.out (by kernel_rfl)) (fun _ _ _ h => h) (Or.inl ⟨by rfl, ?_⟩) ?_ ?_
        rotate_left
        ·intro w'
         go_simp
         with_reducible rfl
        rotate_left
        ·simp only [Act.put, List.setIfInBounds_toArray, List.set_cons_zero, List.set_cons_succ, i64_w, i32_w]
         rfl
        refine pure_ (i := 8) (N := some 22) (v := ?_) (a' := ?_) #[true, true, true, true, true, true, true, false, true, false, false, false, false, false, false, false] rfl rfl (any_of HT_.out (by kernel_rfl)) (fun _ _ _ h => h) (Or.inl ⟨by rfl, ?_⟩) ?_ ?_
        rotate_left
        ·intro w'
         go_simp
         with_reducible rfl
        rotate_left
        ·simp only [Act.put, List.setIfInBounds_toArray, List.set_cons_zero, List.set_cons_succ, i64_w, i32_w]
         rfl
        refine pure_ (i := 9) (N := some 23) (v := ?_) (a' := ?_) #[true, true, true, true, true, true, true, false, true, true, false, false, false, false, false, false] rfl rfl (any_of HT_.out (by kernel_rfl)) (fun _ _ _ h => h) (Or.inl ⟨by rfl, ?_⟩) ?_ ?_
        rotate_left
        ·intro w'
         go_simp
         with_reducible rfl
        rotate_left
        ·simp only [Act.put, List.setIfInBounds_toArray, List.set_cons_zero, List.set_cons_succ, i64_w, i32_w]
         rfl
        refine pure_ (i := 10) (N := some 24) (v := ?_) (a' := ?_) #[true, true, true, true, true, true, true, false, true, true, true, false, false, false, false, false] rfl rfl (any_of HT_.out (by kernel_rfl)) (fun _ _ _ h => h) (Or.inl ⟨by rfl, ?_⟩) ?_ ?_
        rotate_left
        ·intro w'
         go_simp
         with_reducible rfl
        rotate_left
        ·simp only [Act.put, List.setIfInBounds_toArray, List.set_cons_zero, List.set_cons_succ, i64_w, i32_w]
         rfl
        refine take_ (i := 7) (N := some 21) (v := ?_) (a' := ?_) #[true, true, true, true, true, true, true, true, true, true, true, false, false, false, false, false] rfl rfl (take_ofW HT_.out HW_.out (by kernel_rfl)) (fun _ _ _ h => h) (Or.inl ⟨by rfl, ?_⟩) hHeld ?_ ?_
        rotate_left
        ·rintro w' ⟨s0, s1, s2, s3, s4, s5⟩
         go_simp
         with_reducible rfl
        rotate_left
        ·simp only [Act.put, List.setIfInBounds_toArray, List.set_cons_zero, List.set_cons_succ, i64_w, i32_w]
         rfl
        refine take_ (i := 11) (N := some 25) (v := ?_) (a' := ?_) #[true, true, true, true, true, true, true, true, true, true, true, true, false, false, false, false] rfl rfl (take_ofW HT_.out HW_.out (by kernel_rfl)) (fun _ _ _ h => h) (Or.inl ⟨by rfl, ?_⟩) hHeld ?_ ?_
        rotate_left
        ·rintro w' ⟨s0, s1, s2, s3, s4, s5⟩
         go_simp
         with_reducible rfl
        rotate_left
        ·simp only [Act.put, List.setIfInBounds_toArray, List.set_cons_zero, List.set_cons_succ, i64_w, i32_w]
         rfl
        refine pure_ (i := 12) (N := some 26) (v := ?_) (a' := ?_) #[true, true, true, true, true, true, true, true, true, true, true, true, true, false, false, false] rfl rfl (any_of HT_.out (by kernel_rfl)) (fun _ _ _ h => h) (Or.inl ⟨by rfl, ?_⟩) ?_ ?_
        rotate_left
        ·intro w'
         go_simp
         with_reducible rfl
        rotate_left
        ·simp only [Act.put, List.setIfInBounds_toArray, List.set_cons_zero, List.set_cons_succ, i64_w, i32_w]
         rfl
        refine last_ (i := 13) (N := none) #[true, true, true, true, true, true, true, true, true, true, true, true, true, true, false, false] rfl rfl (one_of HT_.out (by kernel_rfl)) (by decide) (fun K hK => ?_)
        refine skip_ (w1 := ?_) (by rfl) rfl ?_ ?_
        rotate_left
        ·go_simp
         rfl
        refine hK.out _ _ ?_
        clear hK K
        refine pure_ (i := 14) (N := some 27) (v := ?_) (a' := ?_) #[true, true, true, true, true, true, true, true, true, true, true, true, true, true, true, false] rfl rfl (any_of HT_.out (by kernel_rfl)) (fun _ _ _ h => h) (Or.inl ⟨by rfl, ?_⟩) ?_ ?_
        rotate_left
        ·intro w'
         go_simp
         with_reducible rfl
        rotate_left
        ·simp only [Act.put, List.setIfInBounds_toArray, List.set_cons_zero, List.set_cons_succ, i64_w, i32_w]
         rfl
        have hlt_ : x2_1 < x3_1 := of_decide_eq_true (by first | (with_reducible assumption) | assumption)
        have hge_ : 0 ≤ x2_1 := of_eq_true p8
        have hnf_ : ((x3_1 : Int).toNat * 3 = (x2_1 : Int).toNat * 3) = False := eq_false (by omega)
        rw [World.frozen?_setCells] at hf9_0 hf9_1 hf9_2
        have hne_ : ((x2_1 : Int).toNat * 3 = (x3_1 : Int).toNat * 3) = False := eq_false (by omega)
        refine last_ (i := 15) (N := none) #[true, true, true, true, true, true, true, true, true, true, true, true, true, true, true, true] rfl rfl (one_of HT_.out (by kernel_rfl)) (by decide) (fun K hK => ?_)
        refine skip_ (w1 := ?_) (by rfl) rfl ?_ ?_
        rotate_left
        ·go_simp
         rfl
        refine hK.out _ _ ?_
        clear hK K
        refine done_ (done_of HT_.out (by kernel_rfl)) ?_
        try go_wp2
        (try simp only [← hl0_1])
        go_roundg k1
        case measure => have := HK1.out; omega
        case rel => exact ⟨(y251), (wrap64 (x2_1 + 1)), (wrap64 (x3_1 - 1)), (by first | rfl | (simp; done) | (simp [*]; done) | (simp [isEmpty_bne]; done)), (by first | rfl | (simp; done) | (simp [*]; done) | (simp [isEmpty_bne]; done)), H', ⟨by have := HK1.out; omega⟩, ⟨by (try simp only [hl0_1]); (with_reducible repeat (first | apply Kd.R_alloc | apply Kd.R_drewN | apply Kd.R_drew)); exact HQ12.out⟩, ⟨by repeat (first | (with_reducible first | exact HK.out | apply Kept.alloc | apply Kept.drewN | apply Kept.drew | refine Kept.setCell ?_ HMgo8.out _ | refine Kept.setCell ?_ HMgo8.out _ | refine Kept.setCell ?_ HMgo8.out _ | refine Kept.setCell ?_ HMgo8.out _ | refine Kept.setCell ?_ HMgo8.out _ | refine Kept.setCell ?_ HMgo8.out _) | exact HK.out)⟩, ⟨by repeat (first | (with_reducible first | exact HB.out | apply below_alloc | apply pw_below_drewN | apply below_drew1 | refine below_set ?_ GB8.out | refine below_set ?_ GB8.out | refine below_set ?_ GB8.out | refine below_set ?_ GB8.out | refine below_set ?_ GB8.out | refine below_set ?_ GB8.out) | exact HB.out)⟩⟩
       ·rw [if_neg c7] at H
        exact absurd H (by simp)
      ·rw [if_neg c6] at H
       exact absurd H (by simp)
     ·rw [if_neg c5] at H
      exact absurd H (by simp)
    ·rw [if_neg c4] at H
     exact absurd H (by simp)
   ·rw [if_neg c3] at H
    have c3b0 : decide (x2_1 < x3_1) = false := decide_eq_false c3
    clear c3
    obtain rfl := Option.some.inj H
    go_wp2
    first | go_end0 | ((try simp only [Exit.inBlock, Exit.then]); refine bodyPost_ret (results_none rfl _ _ _) rfl ?_)
    exact ⟨by first | rfl | (simp [errW_none, errW_some] <;> rfl) | (simp [*, errW_none, errW_some] <;> rfl), (by first | exact (by (with_reducible repeat (first | apply Kd.R_alloc | apply Kd.R_drewN | apply Kd.R_drew)); exact HO_0.out) | (simp only [hl0_1]; exact (by (with_reducible repeat (first | apply Kd.R_alloc | apply Kd.R_drewN | apply Kd.R_drew)); exact HO_0.out))), by repeat (first | (with_reducible first | exact HB.out | apply below_alloc | apply pw_below_drewN | apply below_drew1) | exact HB.out), by repeat (first | (with_reducible first | exact HK.out | apply Kept.alloc | apply Kept.drewN | apply Kept.drew) | exact HK.out)⟩

end Go.Proofs.Ytglckkkjfcomlaa.QFixpointProofs
