-- Written by gen.py (this repo's wip/), which runs the kit's print.py with more arms. Lean checks it.
import Derived.Test.YtglckkkjfcomlaaQFixpointProofsx0
import Derived.Test.YtglckkkjfcomlaaQFixpointProofsx2
import Derived.Test.YtglckkkjfcomlaaQFixpointProofsx8
namespace Go.Proofs.Ytglckkkjfcomlaa.QFixpointProofs
open Go.RowKit Go.Proofs.YtglckkkjfcomlaaW.PrintWords Go.Proofs.YtglckkkjfcomlaaW.PrintLast Go.Proofs.YtglckkkjfcomlaaW.PrintMore
attribute [local go_sem] max2_int min2_int max_two min_two max_three min_three max_four min_four   -- for this text's walks alone
set_option linter.unusedVariables false
set_option linter.unusedSimpArgs false

private theorem isEmpty_bne {α : Type} [BEq α] (l : List α) : (l != []) = !l.isEmpty := by cases l <;> rfl

/-! ### fixpoint_Derive_1: function 106 -/
def fixpoint_Derive_1.f (a0_0 : Int) (a0_1 : Int) (a0_2 : Int) (a1_0_0 : Int) : Option (Bool) := some (a0_0 == a1_0_0)
set_option maxHeartbeats 8000000 in
set_option maxRecDepth 100000 in
theorem fixpoint_Derive_1.calls (a0_0 : Int) (a0_1 : Int) (a0_2 : Int) (b1_0 : Nat) (a1_0_0 : Int) (r : Bool) (w : World) (hb1_0 : w.heap[b1_0]? = some (.cells #[.int .i64 a1_0_0] 3 (0, 0))) (h : fixpoint_Derive_1.f a0_0 a0_1 a0_2 a1_0_0 = some r) :
  Calls Try.prog 106 #[.agg #[.int .i64 a0_0, .int .i64 a0_1, .int .i64 a0_2], .pointer (some ⟨b1_0, 0, none⟩)] w fun e w' => e = .returned (.bool r) ∧ Below w.heap.size w w' := by
 have hu182 := Try.underlying182
 have BK46 := Aside0.mk hb1_0
 clear hb1_0
 have HB := Aside0.mk (Below.refl w.heap.size w)
 have H : (some (a0_0 == a1_0_0)) = some r := h
 clear h
 obtain rfl := Option.some.inj H
 go_enter Try.func106, Try.ntmps106
 go_wp2_with (first | ((with_reducible refine gate_dst (N := 2) rfl ?_); refine box_event ?hg (N := 2) ?hd (cs := #[.int .i64 a0_0, .int .i64 a0_1, .int .i64 a0_2]) (t := 182) ?hr ?_; (case hd => rfl); (case hg => rfl); (case hr => first | (go_simp; done) | (go_simp; rfl)); intro gb252 hg w3 hbox hb; have n0_ := Aside0.mk (blk_below (g := b1_0) (o := .cells #[.int .i64 a1_0_0] 3 (0, 0)) (by (with_reducible repeat (first | refine blk_drewN ?_ _ | refine blk_drew ?_ | refine blk_alloc ?_ _)); exact BK46.out) hb); have n1_ := Aside0.mk (below_step (by repeat (first | (with_reducible first | exact HB.out | apply below_alloc | apply pw_below_drewN | apply below_drew1 | refine below_set ?_ GE46.out) | exact HB.out)) hb); have n2_ := Aside0.mk (hbox); have n3_ := Aside0.mk ((by rw [hg]; exact (below_size (by repeat (first | (with_reducible first | exact HB.out | apply below_alloc | apply pw_below_drewN | apply below_drew1 | refine below_set ?_ GE46.out) | exact HB.out))) : w.heap.size ≤ gb252)); have n4_ := Aside0.mk ((by rw [hg]; exact (below_size (by repeat (first | (with_reducible first | exact HB.out | apply below_alloc | apply pw_below_drewN | apply below_drew1 | refine below_set ?_ GE46.out) | exact HB.out))) : w.heap.size ≤ gb252)); have n5_ := Aside0.mk ((by rw [hg]; exact Nat.ne_of_lt (blk_lt (g := b1_0) (o := .cells #[.int .i64 a1_0_0] 3 (0, 0)) (by (with_reducible repeat (first | refine blk_drewN ?_ _ | refine blk_drew ?_ | refine blk_alloc ?_ _)); exact BK46.out)) : b1_0 ≠ gb252)); have n6_ := Aside0.mk ((by rw [hg]; exact Nat.ne_of_gt (blk_lt (g := b1_0) (o := .cells #[.int .i64 a1_0_0] 3 (0, 0)) (by (with_reducible repeat (first | refine blk_drewN ?_ _ | refine blk_drew ?_ | refine blk_alloc ?_ _)); exact BK46.out)) : gb252 ≠ b1_0)); clear BK46; clear HB; have BK46 := n0_; have HB := n1_; have BK252 := n2_; have GW252 := n3_; have GE252 := n4_; have NB46_252 := n5_; have NB252_46 := n6_; clear n0_ n1_ n2_ n3_ n4_ n5_ n6_; clear hb hbox hg; have hnb4 := NB252_46.out; have hnc4 := NB46_252.out; have hcz5_0 : w3.cell? ⟨gb252, 0, none⟩ = some (.int .i64 a0_0) := (blk_cell BK252.out 0).trans rfl; have hcz5_1 : w3.cell? ⟨gb252, 1, none⟩ = some (.int .i64 a0_1) := (blk_cell BK252.out 1).trans rfl; have hcz5_2 : w3.cell? ⟨gb252, 2, none⟩ = some (.int .i64 a0_2) := (blk_cell BK252.out 2).trans rfl; have hfz5_0 := blk_frozen BK252.out 0; have hfz5_1 := blk_frozen BK252.out 1; have hfz5_2 := blk_frozen BK252.out 2; have hcz6_0 : w3.cell? ⟨b1_0, 0, none⟩ = some (.int .i64 a1_0_0) := (blk_cell BK46.out 0).trans rfl; have hfz6_0 := blk_frozen BK46.out 0))
 go_ret
 exact ⟨by first | rfl | (simp [errW_none, errW_some] <;> rfl) | (simp [*, errW_none, errW_some] <;> rfl), by repeat (first | (with_reducible first | exact HB.out | apply below_alloc | apply pw_below_drewN | apply below_drew1 | refine below_set ?_ GE46.out | refine below_set ?_ GE252.out) | exact HB.out)⟩

/-! ### slices_IndexFunc_105_at_106_3: function 300 -/
def slices_IndexFunc_105_at_106_3.l0 : Nat → List (S182) → Int → Int → Int → Option (Int)
 | 0, _, _, _, _ => none
 | k + 1, x0, x7, x8, x47000 => if x8 < x7 then (if 0 ≤ x8 then (if x8 < (x0.length : Int) then ((fixpoint_Derive_1.f ((rd_T182 x0 x8).f0) ((rd_T182 x0 x8).f1) ((rd_T182 x0 x8).f2) x47000).bind fun t254 => (if t254 = true then (some x8) else (slices_IndexFunc_105_at_106_3.l0 k x0 x7 (wrap64 (x8 + 1)) x47000))) else (none)) else (none)) else (some (-1))
def slices_IndexFunc_105_at_106_3.f (k : Nat) (l0 : List (S182)) (a1_0_0 : Int) : Option (Int) := slices_IndexFunc_105_at_106_3.l0 k l0 (l0.length : Int) 0 a1_0_0
theorem slices_IndexFunc_105_at_106_3.mono_l : ∀ k, (∀ y0 y1 y2 y3, LeO (slices_IndexFunc_105_at_106_3.l0 k y0 y1 y2 y3) (slices_IndexFunc_105_at_106_3.l0 (k + 1) y0 y1 y2 y3))
 | 0 => fun _ _ _ _ r h => by simp [slices_IndexFunc_105_at_106_3.l0] at h
 | k + 1 => by
  have ih0 := slices_IndexFunc_105_at_106_3.mono_l k
  ·intro y0 y1 y2 y3
   unfold slices_IndexFunc_105_at_106_3.l0
   repeat' first
   | (with_reducible exact ih0 _ _ _ _)
   | (with_reducible exact LeO.refl _)
   | (with_reducible exact LeO.none _)
   | (with_reducible refine LeO.ite ?_ ?_)
   | (with_reducible refine LeO.bind ?_ (fun _ => ?_))
   | exact ih0 _ _ _ _
   | exact LeO.none _
   | refine LeO.ite ?_ ?_
   | refine LeO.bind ?_ (fun _ => ?_)
theorem slices_IndexFunc_105_at_106_3.mono : ∀ a0 a1 k, LeO (slices_IndexFunc_105_at_106_3.f k a0 a1) (slices_IndexFunc_105_at_106_3.f (k + 1) a0 a1) := by
 intro a0 a1 k
 have ih0 := slices_IndexFunc_105_at_106_3.mono_l k
 unfold slices_IndexFunc_105_at_106_3.f
 repeat' first
   | (with_reducible exact ih0 _ _ _ _)
   | (with_reducible exact LeO.refl _)
   | (with_reducible exact LeO.none _)
   | (with_reducible refine LeO.ite ?_ ?_)
   | (with_reducible refine LeO.bind ?_ (fun _ => ?_))
   | exact ih0 _ _ _ _
   | exact LeO.none _
   | refine LeO.ite ?_ ?_
   | refine LeO.bind ?_ (fun _ => ?_)
set_option maxHeartbeats 8000000 in
set_option maxRecDepth 100000 in
theorem slices_IndexFunc_105_at_106_3.calls (k : Nat) (A0 : Option Addr) (c0 : Nat) (l0 : List (S182)) (b1_0 : Nat) (a1_0_0 : Int) (r : Int) (w : World) (hr0 : Kd.C k182 w A0 l0.length l0) (hc0 : l0.length ≤ c0) (hb1_0 : w.heap[b1_0]? = some (.cells #[.int .i64 a1_0_0] 3 (0, 0))) (h : slices_IndexFunc_105_at_106_3.f k l0 a1_0_0 = some r) :
  Calls Try.prog 105 #[.slice A0 l0.length c0, .func (.func 106) #[] #[.pointer (some ⟨b1_0, 0, none⟩)]] w fun e w' => e = .returned (.int .i64 r) ∧ Below w.heap.size w w' := by
 have hu182 := Try.underlying182
 have HR0 := Aside0.mk hr0
 have HC0 := Aside0.mk hc0
 clear hr0 hc0
 have BK46 := Aside0.mk hb1_0
 clear hb1_0
 have HB := Aside0.mk (Below.refl w.heap.size w)
 have H : (slices_IndexFunc_105_at_106_3.l0 k l0 (l0.length : Int) 0 a1_0_0) = some r := h
 clear h
 have H' := Aside0.mk H
 clear H
 go_enter Try.func105, Try.ntmps105
 go_wp2
 go_loopg [8] k (fun kq v8 w' => ∃ (x8_1 : Int), v8 = .int .i64 x8_1 ∧ Aside0 (slices_IndexFunc_105_at_106_3.l0 kq l0 (l0.length : Int) x8_1 a1_0_0 = some r) ∧ Aside0 (kq ≤ k) ∧ Aside0 (w'.heap[b1_0]? = some (.cells #[.int .i64 a1_0_0] 3 (0, 0))) ∧ Aside0 (Below w.heap.size w w'))
 case atStart => exact ⟨(0), (by first | rfl | (simp; done) | (simp [*]; done) | (simp [isEmpty_bne]; done)), H', ⟨Nat.le_refl _⟩, ⟨by (with_reducible repeat (first | refine blk_drewN ?_ _ | refine blk_drew ?_ | refine blk_alloc ?_ _)); exact BK46.out⟩, ⟨by repeat (first | (with_reducible first | exact HB.out | apply below_alloc | apply pw_below_drewN | apply below_drew1 | refine below_set ?_ GE46.out) | exact HB.out)⟩⟩
 case round =>
  clear H'
  try clear p2
  obtain ⟨x8_1, rfl, HA, HK1, BK46, HB⟩ := hrel
  cases gk with
  | zero => exact absurd HA.out (by simp [slices_IndexFunc_105_at_106_3.l0])
  | succ k1 =>
   have H := HA.out
   clear HA
   simp only [slices_IndexFunc_105_at_106_3.l0] at H
   by_cases c3 : x8_1 < (l0.length : Int)
   ·rw [if_pos c3] at H
    have c3b0 : decide (x8_1 < (l0.length : Int)) = true := decide_eq_true c3
    clear c3
    by_cases c4 : 0 ≤ x8_1
    ·rw [if_pos c4] at H
     have c4b0 : decide (0 ≤ x8_1) = true := decide_eq_true c4
     clear c4
     by_cases c5 : x8_1 < (l0.length : Int)
     ·rw [if_pos c5] at H
      have c5b0 : decide (x8_1 < (l0.length : Int)) = true := decide_eq_true c5
      clear c5
      replace H := Option.bind_eq_some_iff.mp H
      obtain ⟨t254, A60, H⟩ := H
      replace H : (if t254 = true then (some x8_1) else (slices_IndexFunc_105_at_106_3.l0 k1 l0 (l0.length : Int) (wrap64 (x8_1 + 1)) a1_0_0)) = some r := H
      have A6 := Aside0.mk A60
      clear A60
      by_cases c7 : t254 = true
      ·subst c7
       have H1 : (some x8_1) = some r := by rw [if_pos rfl] at H; exact H
       clear H
       have H := H1
       clear H1
       obtain rfl := Option.some.inj H
       have p253 : 0 ≤ (x8_1 : Int) := of_decide_eq_true (by first | (with_reducible assumption) | assumption)
       have q253 : x8_1 < (l0.length : Int) := of_decide_eq_true (by first | (with_reducible assumption) | assumption)
       obtain ⟨ad253, e253, hx253_0, hx253_1, hx253_2⟩ := at_T182 HR0.out x8_1 p253 q253
       cases e253
       replace hx253_0 := (HB.out.cell (World.block_lt_of_cell? w _ hx253_0)).trans hx253_0
       replace hx253_1 := (HB.out.cell (World.block_lt_of_cell? w _ hx253_1)).trans hx253_1
       replace hx253_2 := (HB.out.cell (World.block_lt_of_cell? w _ hx253_2)).trans hx253_2
       replace p253 := eq_true p253
       replace q253 := eq_true q253
       go_wp2_with (first | (go_at_call 106; (with_reducible refine (fixpoint_Derive_1.calls ((rd_T182 l0 x8_1).f0) ((rd_T182 l0 x8_1).f1) ((rd_T182 l0 x8_1).f2) _ a1_0_0 true _ ?side1 A6.out).mono ?_); (case side1 => exact (by (with_reducible repeat (first | refine blk_drewN ?_ _ | refine blk_drew ?_ | refine blk_alloc ?_ _)); exact BK46.out)); rintro e w8 ⟨rfl, hb⟩; have n0_ := Aside0.mk (blk_below (g := b1_0) (o := .cells #[.int .i64 a1_0_0] 3 (0, 0)) (by (with_reducible repeat (first | refine blk_drewN ?_ _ | refine blk_drew ?_ | refine blk_alloc ?_ _)); exact BK46.out) hb); have n1_ := Aside0.mk (below_step (by repeat (first | (with_reducible first | exact HB.out | apply below_alloc | apply pw_below_drewN | apply below_drew1 | refine below_set ?_ GE46.out) | exact HB.out)) hb); clear BK46; clear HB; have BK46 := n0_; have HB := n1_; clear n0_ n1_; (try clear hb); (try clear hb2); (try clear hk); (try clear hi)))
       go_ret
       exact ⟨by first | rfl | (simp [errW_none, errW_some] <;> rfl) | (simp [*, errW_none, errW_some] <;> rfl), by repeat (first | (with_reducible first | exact HB.out | apply below_alloc | apply pw_below_drewN | apply below_drew1 | refine below_set ?_ GE46.out) | exact HB.out)⟩
      ·replace c7 := Bool.eq_false_iff.mpr c7
       subst c7
       have H1 : (slices_IndexFunc_105_at_106_3.l0 k1 l0 (l0.length : Int) (wrap64 (x8_1 + 1)) a1_0_0) = some r := by rw [if_neg (show ¬ (false = true) by decide)] at H; exact H
       clear H
       have H := H1
       clear H1
       have H' := Aside0.mk H
       clear H
       have p253 : 0 ≤ (x8_1 : Int) := of_decide_eq_true (by first | (with_reducible assumption) | assumption)
       have q253 : x8_1 < (l0.length : Int) := of_decide_eq_true (by first | (with_reducible assumption) | assumption)
       obtain ⟨ad253, e253, hx253_0, hx253_1, hx253_2⟩ := at_T182 HR0.out x8_1 p253 q253
       cases e253
       replace hx253_0 := (HB.out.cell (World.block_lt_of_cell? w _ hx253_0)).trans hx253_0
       replace hx253_1 := (HB.out.cell (World.block_lt_of_cell? w _ hx253_1)).trans hx253_1
       replace hx253_2 := (HB.out.cell (World.block_lt_of_cell? w _ hx253_2)).trans hx253_2
       replace p253 := eq_true p253
       replace q253 := eq_true q253
       go_wp2_with (first | (go_at_call 106; (with_reducible refine (fixpoint_Derive_1.calls ((rd_T182 l0 x8_1).f0) ((rd_T182 l0 x8_1).f1) ((rd_T182 l0 x8_1).f2) _ a1_0_0 false _ ?side1 A6.out).mono ?_); (case side1 => exact (by (with_reducible repeat (first | refine blk_drewN ?_ _ | refine blk_drew ?_ | refine blk_alloc ?_ _)); exact BK46.out)); rintro e w9 ⟨rfl, hb⟩; have n0_ := Aside0.mk (blk_below (g := b1_0) (o := .cells #[.int .i64 a1_0_0] 3 (0, 0)) (by (with_reducible repeat (first | refine blk_drewN ?_ _ | refine blk_drew ?_ | refine blk_alloc ?_ _)); exact BK46.out) hb); have n1_ := Aside0.mk (below_step (by repeat (first | (with_reducible first | exact HB.out | apply below_alloc | apply pw_below_drewN | apply below_drew1 | refine below_set ?_ GE46.out) | exact HB.out)) hb); clear BK46; clear HB; have BK46 := n0_; have HB := n1_; clear n0_ n1_; (try clear hb); (try clear hb2); (try clear hk); (try clear hi)))
       go_roundg k1
       case measure => have := HK1.out; omega
       case rel => exact ⟨(wrap64 (x8_1 + 1)), (by first | rfl | (simp; done) | (simp [*]; done) | (simp [isEmpty_bne]; done)), H', ⟨by have := HK1.out; omega⟩, ⟨by (with_reducible repeat (first | refine blk_drewN ?_ _ | refine blk_drew ?_ | refine blk_alloc ?_ _)); exact BK46.out⟩, ⟨by repeat (first | (with_reducible first | exact HB.out | apply below_alloc | apply pw_below_drewN | apply below_drew1 | refine below_set ?_ GE46.out) | exact HB.out)⟩⟩
     ·rw [if_neg c5] at H
      exact absurd H (by simp)
    ·rw [if_neg c4] at H
     exact absurd H (by simp)
   ·rw [if_neg c3] at H
    have c3b0 : decide (x8_1 < (l0.length : Int)) = false := decide_eq_false c3
    clear c3
    obtain rfl := Option.some.inj H
    go_wp2
    go_ret
    exact ⟨by first | rfl | (simp [errW_none, errW_some] <;> rfl) | (simp [*, errW_none, errW_some] <;> rfl), by repeat (first | (with_reducible first | exact HB.out | apply below_alloc | apply pw_below_drewN | apply below_drew1 | refine below_set ?_ GE46.out) | exact HB.out)⟩

-- NOT PRINTED: function 37 (fixpoint_Derive)

-- NOT PRINTED: function 38 (glossatorref3_Proves)

section
open Go.Shelf Go.Proofs.Ytglckkkjfcomlaa.Hand
attribute [local go_sem] Oper.semAt_some

abbrev Pl (N : Nat) := { i : Nat // i < N }
def encD (xs : List S182) (N : Nat) (x : Pl N) : Array Value := #[.int .i64 (x.1 : Int), .agg #[.int .i64 (rd_T182 xs (x.1 : Int)).f0, .int .i64 (rd_T182 xs (x.1 : Int)).f1, .int .i64 (rd_T182 xs (x.1 : Int)).f2]]
theorem grown_drew (W : World) : W.grownBy W.drew none := ⟨rfl, rfl, rfl, Nat.le_refl _, fun _ _ _ => rfl⟩
/-- What a round leaves as it was: the iterator's box, and the row over which it goes. -/
def KpD (B1 B2 : Nat) (W W' : World) : Prop := W'.heap[B1]? = W.heap[B1]? ∧ W'.heap[B2]? = W.heap[B2]?
theorem KpD.trans {B1 B2 : Nat} {A B C : World} (h : KpD B1 B2 A B) (k : KpD B1 B2 B C) : KpD B1 B2 A C := ⟨k.1.trans h.1, k.2.trans h.2⟩
theorem C182_same {W W' : World} {ad : Addr} {n : Nat} {xs : List S182} (h : Kd.C k182 W (some ad) n xs) (hb : W'.heap[ad.block]? = W.heap[ad.block]?) : Kd.C k182 W' (some ad) n xs := by
 obtain ⟨e1, e2, e3⟩ := h
 refine ⟨e1, e2, fun hn => ?_⟩
 obtain ⟨ad', ha, hc⟩ := e3 hn
 injection ha with ha
 subst ha
 refine ⟨ad, rfl, fun j p hj => ?_⟩
 obtain ⟨c, hcl, hK, hcc⟩ := hc j p hj
 refine ⟨c, hcl, ?_, fun i u hu => ?_⟩
 ·rw [k182_open hK]; exact k182_mk _ _
 ·have h1 := hcc i u hu
  have h2 : (ad.add (j * k182.sz + i)).block = ad.block := by simp only [Addr.add]; split <;> rfl
  unfold World.cell? at h1 ⊢
  rw [h2] at h1 ⊢
  rw [hb]
  exact h1
theorem cellv_of {W : World} {B : Nat} {v : Value} {t : Nat} (h : W.heap[B]? = some (.cells #[v] t (0, 0))) : W.cell? ⟨B, 0, none⟩ = some v := by
 simp [World.cell?, h]
set_option maxRecDepth 100000 in
set_option maxHeartbeats 4000000 in
theorem back1_in (F : Fence) (n : Nat) (hf : F.fn 178) (hro : F.round = none) (hn : 1 ≤ n) (l B1 : Nat) (ad : Addr) (N c : Nat) (xs : List S182) (hN : N ≤ 140737488355328) (hNc : N ≤ c) (J Jx : List (Pl N) → World → Prop)
  (hY : ∀ pre (x : Pl N) W, J pre W → pre.length < N → YieldAt F (n - 1) Try.prog l (encD xs N x) W fun e W' =>
   (e = .returned (.bool true) ∧ J (pre ++ [x]) W' ∧ KpD B1 ad.block W W') ∨ (e = .returned (.bool false) ∧ Jx (pre ++ [x]) W'))
  (W : World) (h1 : W.heap[B1]? = some (.cells #[.slice (some ad) N c] 69 (0, 0))) (hC : Kd.C k182 W (some ad) N xs) (h0 : J [] W) :
  CallsIn F n Try.prog 178 #[.func (.yield l) #[] #[], .pointer (some ⟨B1, 0, none⟩)] W fun e W' => (∃ v, e = .returned v) ∧
   ((∃ ys, ys.map Subtype.val = (List.range N).reverse ∧ J ys W') ∨ (∃ pre, True ∧ Jx pre W')) := by
 have c0 := cellv_of h1
 refine callsIn_of_wp Try.func178 rfl hf ?_ hro
 simp only [Try.ntmps178, List.size_toArray, List.length_cons, List.length_nil, Nat.reduceAdd, Nat.reduceSub, Array.replicate_succ, Array.replicate_zero, List.push_toArray, List.append_toArray, List.nil_append, List.cons_append]
 gi_wp2
 gi_loopw [3] (fun i wr => ∃ (m : Nat) (pre : List (Pl N)), i = .int .i64 ((m : Int) - 1) ∧ m ≤ N ∧ pre.length + m = N ∧ pre.map Subtype.val ++ (List.range m).reverse = (List.range N).reverse ∧ J pre wr ∧ wr.heap[B1]? = some (.cells #[.slice (some ad) N c] 69 (0, 0)) ∧ Kd.C k182 wr (some ad) N xs)
  (fun i _ => (intOf i + 1).toNat)
 case atStart => exact ⟨N, [], rfl, Nat.le_refl _, by simp, by simp, h0, h1, hC⟩
 case round =>
  obtain ⟨m, pre, rfl, hm, hlen, hcuts, hJs, g1, gC⟩ := hrel
  have c1 := cellv_of g1
  cases m with
  | zero =>
   gi_wp2
   go_end0
   exact ⟨⟨_, rfl⟩, .inl ⟨pre, by simpa using hcuts, hJs⟩⟩
  | succ m =>
   have hmN : m < N := by omega
   have e0 : ((m + 1 : Nat) : Int) - 1 = (m : Int) := by omega
   rw [e0]
   have b1 : decide ((m : Int) ≥ 0) = true := by simp
   have p1 : ((0 : Int) ≤ (m : Int)) = True := eq_true (by omega)
   have p2 : ((m : Int) < (N : Int)) = True := eq_true (by omega)
   obtain ⟨ad', ha, hx0, hx1, hx2⟩ := at_T182 gC (m : Int) (by omega) (by omega)
   cases ha
   rw [Int.toNat_natCast] at hx0 hx1 hx2
   obtain ⟨fn, tmps, assign, body, hy, hR⟩ := hY pre ⟨m, hmN⟩ wr hJs (by omega)
   unfold encD at hy
   dsimp only at hy
   gi_wp2
   refine hR.mono ?_
   rintro e W3 (⟨rfl, hJ3, hk3⟩ | ⟨rfl, hJx3⟩)
   ·have g13 : W3.heap[B1]? = some (.cells #[.slice (some ad) N c] 69 (0, 0)) := hk3.1.trans g1
    have gC3 := C182_same gC hk3.2
    gi_wp2
    go_roundw
    case rel => exact ⟨m, pre ++ [⟨m, hmN⟩], by first | rfl | simp, by omega, by simp; omega, by rw [← hcuts, List.range_succ, List.reverse_append, List.map_append, List.append_assoc]; rfl, hJ3, g13, gC3⟩
    case measure => simp [intOf]
   ·gi_wp2
    refine bodyPost_ret (results_none rfl _ _ _) rfl ?_
    exact ⟨⟨_, rfl⟩, .inr ⟨_, trivial, hJx3⟩⟩
theorem back_stops (F : Fence) (n : Nat) (hf : F.fn 178) (hro : F.round = none) (hn : 1 ≤ n) (B1 : Nat) (ad : Addr) (N c : Nat) (xs : List S182) (hN : N ≤ 140737488355328) (hNc : N ≤ c) (hN0 : 0 < N) (w : World)
  (h1 : w.heap[B1]? = some (.cells #[.slice (some ad) N c] 69 (0, 0))) (hC : Kd.C k182 w (some ad) N xs) :
  SeqStopsK F n Try.prog 178 #[.pointer (some ⟨B1, 0, none⟩)] (encD xs N) (KpD B1 ad.block) (fun ys => ys.map Subtype.val = (List.range N).reverse) (fun _ => True) N w := fun l J Jx W hW hJ _ hY h0 => by
 have l1 : B1 < w.heap.size := (Array.getElem?_eq_some_iff.1 h1).1
 have l2 : ad.block < w.heap.size := by
  obtain ⟨ad', ha, hx0, _⟩ := at_T182 hC 0 (by omega) (by omega)
  cases ha
  have := World.block_lt_of_cell? w _ hx0
  have h2 : (ad.add (Int.toNat 0 * 3)).block = ad.block := by simp only [Addr.add]; split <;> rfl
  rwa [h2] at this
 exact back1_in F n hf hro hn l B1 ad N c xs hN hNc J Jx hY W ((hW.block B1 l1).trans h1) (C182_same hC (hW.block _ l2)) h0
set_option maxHeartbeats 1000000 in
theorem back_in (F : Fence) (n : Nat) (hf : F.fn 107) (hro : F.round = none) (A : Option Addr) (N c : Nat) (w : World) :
  CallsIn F n Try.prog 107 #[.slice A N c] w fun e w' => e = .returned (.func (.func 178) #[] #[.pointer (some ⟨w.heap.size, 0, none⟩)]) ∧ w' = w.alloc (.cells #[.slice A N c] 69) := by
 refine callsIn_of_wp Try.func107 rfl hf ?_ hro
 simp only [Try.ntmps107, List.size_toArray, List.length_cons, List.length_nil, Nat.reduceAdd, Nat.reduceSub, Array.replicate_succ, Array.replicate_zero, List.push_toArray, List.append_toArray, List.nil_append, List.cons_append]
 gi_wp2
 go_ret
 exact ⟨rfl, rfl⟩

def needRow (need : List Bool) (js : List Int) : List Bool := js.foldl (fun nd j => nd.set j.toNat true) need
theorem needRow_len : ∀ (js : List Int) (need : List Bool), (needRow need js).length = need.length
 | [], _ => rfl
 | j :: js, need => by show (needRow (need.set j.toNat true) js).length = _; rw [needRow_len js, List.length_set]
def stepD (rules : List (List S58)) (p : List Bool × List S182) (d : S182) : List Bool × List S182 :=
 if p.1.getD d.f0.toNat false = true then (needRow p.1 (rd_T58 (rd_L3 rules d.f0) d.f1).f1, p.2 ++ [d]) else p
def backD (rules : List (List S58)) (need : List Bool) (ds : List S182) : List Bool × List S182 := ds.foldl (stepD rules) (need, [])
def goodD (rules : List (List S58)) (d : S182) : Prop := 0 ≤ d.f0 ∧ d.f0 < (rules.length : Int) ∧ 0 ≤ d.f1 ∧ d.f1 < ((rd_L3 rules d.f0).length : Int) ∧ ∀ j ∈ (rd_T58 (rd_L3 rules d.f0) d.f1).f1, 0 ≤ j ∧ j < (rules.length : Int)
instance (rules : List (List S58)) (d : S182) : Decidable (goodD rules d) := by unfold goodD; infer_instance
def goodS (rules : List (List S58)) (ds : List S182) : Bool := ds.all (fun d => decide (goodD rules d))
def revD (ds : List S182) (n : Nat) : List S182 := (List.range n).reverse.map (fun j : Nat => rd_T182 ds (j : Int))
def fixpoint_Derive.f (k : Nat) (rules : List (List S58)) (st el : Int) : Option (List S182 × Int) :=
 (fixpoint_Check.f k rules).bind fun e => if e = 0 then (if st < 0 ∨ st ≥ (rules.length : Int) ∨ el < 0 ∨ el ≥ 20 then some ([], 1) else
  (fixpoint_derivations.f k rules el).bind fun ds => (slices_IndexFunc_105_at_106_3.f k ds st).bind fun i => if i < 0 then some ([], 5) else
   if i < (ds.length : Int) ∧ goodS rules ds = true ∧ ds.length ≤ 1000000 ∧ rules.length ≤ 1000000 then (api_QDerivation_108.f k (backD rules ((List.replicate rules.length false).set st.toNat true) (revD ds (i.toNat + 1))).2).bind fun r => some (r, 0) else none) else some ([], e)
theorem fixpoint_Derive.mono : ∀ a0 a1 a2 k, LeO (fixpoint_Derive.f k a0 a1 a2) (fixpoint_Derive.f (k + 1) a0 a1 a2) := by
 intro a0 a1 a2 k
 unfold fixpoint_Derive.f
 refine LeO.bind (fixpoint_Check.mono _ _) (fun e => LeO.ite (LeO.ite (LeO.refl _) ?_) (LeO.refl _))
 refine LeO.bind (fixpoint_derivations.mono _ _ _) (fun ds => LeO.bind (slices_IndexFunc_105_at_106_3.mono _ _ _) (fun i => LeO.ite (LeO.refl _) (LeO.ite ?_ (LeO.refl _))))
 exact LeO.bind (api_QDerivation_108.mono _ _) (fun r => LeO.refl _)
def rulesOf (rules : List (List S58)) (d : S182) : List Int := (rd_T58 (rd_L3 rules d.f0) d.f1).f1
theorem stepD_len (rules : List (List S58)) (p : List Bool × List S182) (d : S182) : (stepD rules p d).1.length = p.1.length := by
 unfold stepD
 split
 ·exact needRow_len _ _
 ·rfl
theorem stepD_acc (rules : List (List S58)) (p : List Bool × List S182) (d : S182) : (stepD rules p d).2.length ≤ p.2.length + 1 := by
 unfold stepD
 split
 ·simp
 ·exact Nat.le_succ _
/-- Between two rounds: the boxes, what is needed, the proof so far. -/
def DerI (w W0 : World) (b11 g6 k6 gd bs4 : Nat) (R : Value) (n : Nat) (p : List Bool × List S182) (W : World) : Prop :=
 W.heap[w.heap.size]? = some (.cells #[R] 47 (0, 0)) ∧ W.heap[b11]? = some (.cells #[.slice (some ⟨g6, 0, none⟩) n k6] 184 (0, 0)) ∧
 (∃ v, W.heap[b11 + 1]? = some (.cells #[v] 69 (0, 0)) ∧ Kd.R k182 182 W (b11 + 3) (fun k => some k = v.ownBlock) v p.2) ∧
 (Kd.bool.R 4 W bs4 (fun k => k = g6) (.slice (some ⟨g6, 0, none⟩) n k6) p.1 ∧ ∃ cs, W.heap[g6]? = some (.cells cs 4 (0, 0))) ∧ (∃ cs, W.heap[gd]? = some (.cells cs 182 (0, 0))) ∧
 KpD (b11 + 2) gd W0 W ∧ Below w.heap.size w W ∧ W0.heap.size ≤ W.heap.size
theorem bool_keep {W W' : World} {base g : Nat} {v : Value} {xs : List Bool} (h : Kd.bool.R 4 W base (fun k => k = g) v xs) (hk : W'.heap[g]? = W.heap[g]?) : Kd.bool.R 4 W' base (fun k => k = g) v xs :=
 Kd.R_step h (fun k hk' _ => by subst hk'; exact hk)
theorem k182_keep {W W' : World} {base : Nat} {v : Value} {xs : List S182} (h : Kd.R k182 182 W base (fun k => some k = v.ownBlock) v xs) (hk : ∀ k, v.ownBlock = some k → W'.heap[k]? = W.heap[k]?) : Kd.R k182 182 W' base (fun k => some k = v.ownBlock) v xs :=
 Kd.R_step h (fun k hk' _ => hk k hk'.symm)
theorem DerI.keep {w W0 W W' : World} {b11 g6 k6 gd bs4 : Nat} {R : Value} {n : Nat} {p : List Bool × List S182} (h : DerI w W0 b11 g6 k6 gd bs4 R n p W) (hb : Below w.heap.size W W') (hs : W.heap.size ≤ W'.heap.size)
  (hk : ∀ (k : Nat) (cs : Array Value) (t : TypeId), W.heap[k]? = some (Obj.cells cs t (0, 0)) → W'.heap[k]? = W.heap[k]?) (h2 : W.heap[b11 + 2]? = W0.heap[b11 + 2]? → W'.heap[b11 + 2]? = W0.heap[b11 + 2]?) : DerI w W0 b11 g6 k6 gd bs4 R n p W' := by
 obtain ⟨h1, h3, ⟨v, h4, h5⟩, ⟨h6, c6, h7⟩, ⟨cg, h8⟩, h9, h10, h11⟩ := h
 refine ⟨(hk _ _ _ h1).trans h1, (hk _ _ _ h3).trans h3, ⟨v, (hk _ _ _ h4).trans h4, k182_keep h5 (fun k e => ?_)⟩, ⟨bool_keep h6 (hk _ _ _ h7), c6, (hk _ _ _ h7).trans h7⟩, ⟨cg, (hk _ _ _ h8).trans h8⟩, ⟨h2 h9.1, (hk _ _ _ h8).trans h9.2⟩, h10.trans hb, Nat.le_trans h11 hs⟩
 obtain ⟨cs, hc⟩ := Kd.R_typed h5 k e
 exact hk _ _ _ hc
theorem DerI.own {N : Nat} {w W0 : World} {b11 g6 k6 gd bs4 : Nat} {R : Value} {n : Nat} (f : List (Pl N) → List Bool × List S182) (hw : w.heap.size ≤ W0.heap.size) (h2 : b11 + 2 < W0.heap.size) : OwnFrom W0.heap.size (fun pre W => DerI w W0 b11 g6 k6 gd bs4 R n (f pre) W) := by
 intro pre W W' row hs hg hr
 have hsz : W0.heap.size ≤ W.heap.size := hs.2.2.2.2.2.2.2
 refine DerI.keep hs ⟨hg.os, hg.tape, hg.output, hg.size, fun k hk => hg.block k (by omega) (fun e => by have := (hr k e.symm).1; omega)⟩ hg.size (fun k cs t hk => hg.block k (Array.getElem?_eq_some_iff.1 hk).1 (fun e => ?_)) (fun h => (hg.block _ (by omega) (fun e => by have := (hr _ e.symm).1; omega)).trans h)
 obtain ⟨_, o, ho, hc⟩ := hr k e.symm
 rw [hk] at ho
 injection ho with ho
 subst ho
 cases hc
theorem DerI.alloc {w W0 W : World} {b11 g6 k6 gd bs4 : Nat} {R : Value} {n : Nat} {p : List Bool × List S182} (h : DerI w W0 b11 g6 k6 gd bs4 R n p W) (hw : w.heap.size ≤ W0.heap.size) (h2 : b11 + 2 < W0.heap.size) (o : Obj) : DerI w W0 b11 g6 k6 gd bs4 R n p (W.alloc o) := by
 have hsz : W0.heap.size ≤ W.heap.size := h.2.2.2.2.2.2.2
 exact DerI.keep h ((below_alloc (Below.refl W.heap.size W) o).mono (by omega)) (by simp) (fun k cs t hk => Below.heap_alloc W o k (Array.getElem?_eq_some_iff.1 hk).1) (fun h => (Below.heap_alloc W o _ (by omega)).trans h)
theorem backD_len (rules : List (List S58)) (need : List Bool) : ∀ (ds : List S182) (acc : List S182), (ds.foldl (stepD rules) (need, acc)).1.length = need.length ∧ (ds.foldl (stepD rules) (need, acc)).2.length ≤ acc.length + ds.length
 | [], acc => ⟨rfl, Nat.le_refl _⟩
 | d :: ds, acc => by
  have h1 := stepD_len rules (need, acc) d
  have h2 := stepD_acc rules (need, acc) d
  obtain ⟨n2, a2⟩ : ∃ q, q = stepD rules (need, acc) d := ⟨_, rfl⟩
  have ih := backD_len rules (stepD rules (need, acc) d).1 ds (stepD rules (need, acc) d).2
  refine ⟨ih.1.trans h1, ?_⟩
  have h3 := ih.2
  simp only [List.length_cons] at *
  show ((ds.foldl (stepD rules) (stepD rules (need, acc) d)).2).length ≤ _
  have h4 : (stepD rules (need, acc) d) = ((stepD rules (need, acc) d).1, (stepD rules (need, acc) d).2) := rfl
  rw [h4]
  omega
theorem DerI.push {w W0 W w1 : World} {b11 g6 k6 gd bs4 : Nat} {R : Value} {n : Nat} {p : List Bool × List S182} {v v1 : Value} {acc : List S182} (h : DerI w W0 b11 g6 k6 gd bs4 R n p W) (hw : w.heap.size < b11) (h2 : b11 + 3 = W0.heap.size) (h6 : g6 < b11) (hd : gd < b11)
  (hv : W.heap[b11 + 1]? = some (.cells #[v] 69 (0, 0))) (hr : Kd.R k182 182 w1 (b11 + 3) (fun _ => True) v1 acc) (hb : Below (b11 + 3) W w1) : DerI w W0 b11 g6 k6 gd bs4 R n (p.1, acc) (w1.setCell ⟨b11 + 1, 0, none⟩ v1) := by
 obtain ⟨h1, h3, _, ⟨h6', c6, h7⟩, ⟨cg, h8⟩, h9, h10, h11⟩ := h
 have k1 : ∀ k, k < b11 + 3 → k ≠ b11 + 1 → (w1.setCell ⟨b11 + 1, 0, none⟩ v1).heap[k]? = W.heap[k]? := fun k hk hne => (Below.heap_setCell _ _ _ _ hne).trans (hb.block _ hk)
 refine ⟨(k1 _ (by omega) (by omega)).trans h1, (k1 _ (by omega) (by omega)).trans h3, ⟨v1, hb_set ((hb.block _ (by omega)).trans hv) 0 _, ?_⟩, ⟨bool_keep h6' (k1 _ (by omega) (by omega)), c6, (k1 _ (by omega) (by omega)).trans h7⟩, ⟨cg, (k1 _ (by omega) (by omega)).trans h8⟩, ⟨(k1 _ (by omega) (by omega)).trans h9.1, (k1 _ (by omega) (by omega)).trans h9.2⟩, ?_, ?_⟩
 ·refine k182_keep (Kd.R_tight rfl hr) (fun k e => Below.heap_setCell _ _ _ _ ?_)
  have := Kd.R_base hr k e
  show k ≠ b11 + 1
  omega
 ·exact (h10.trans (hb.mono (by omega))).setCell (p := ⟨b11 + 1, 0, none⟩) (by show w.heap.size ≤ b11 + 1; omega) _
 ·have := hb.size
  simp only [World.size_setCell]
  omega
theorem DerI.mark {w W0 W : World} {b11 g6 k6 gd bs4 : Nat} {R : Value} {n : Nat} {p : List Bool × List S182} (h : DerI w W0 b11 g6 k6 gd bs4 R n p W) (hw : w.heap.size < g6) (h6 : g6 < b11) (hd : gd < g6) (j : Int) :
  DerI w W0 b11 g6 k6 gd bs4 R n (p.1.set j.toNat true, p.2) (W.setCell ⟨g6, j.toNat, none⟩ (.bool true)) := by
 obtain ⟨h1, h3, ⟨v, h4, h5⟩, ⟨h6', c6, h7⟩, ⟨cg, h8⟩, h9, h10, h11⟩ := h
 have k1 : ∀ k, k ≠ g6 → (W.setCell ⟨g6, j.toNat, none⟩ (.bool true)).heap[k]? = W.heap[k]? := fun k hne => Below.heap_setCell _ _ _ _ hne
 have hr := Kd.R_putn h6' j true
 obtain ⟨c7, hc7⟩ := Kd.R_typed hr g6 rfl
 refine ⟨(k1 _ (by omega)).trans h1, (k1 _ (by omega)).trans h3, ⟨v, (k1 _ (by omega)).trans h4, k182_keep h5 (fun k e => k1 _ ?_)⟩, ⟨hr, c7, hc7⟩, ⟨cg, (k1 _ (by omega)).trans h8⟩, ⟨(k1 _ (by omega)).trans h9.1, (k1 _ (by omega)).trans h9.2⟩, h10.setCell (p := ⟨g6, j.toNat, none⟩) (by show w.heap.size ≤ g6; omega) _, by simpa using h11⟩
 have := Kd.R_base h5 k e
 omega
theorem needRow_take (need : List Bool) (js : List Int) (j : Nat) (h : j < js.length) : needRow need (js.take (j + 1)) = (needRow need (js.take j)).set (rd js (j : Int)).toNat true := by
 have e : rd js (j : Int) = js[j] := by unfold rd; rw [Int.toNat_natCast, List.getD_eq_getElem?_getD, List.getElem?_eq_getElem h]; rfl
 unfold needRow
 rw [List.take_succ_eq_append_getElem h, List.foldl_append, e]
 rfl
def plD {N : Nat} (ds : List S182) (pre : List (Pl N)) : List S182 := pre.map (fun x => rd_T182 ds (x.1 : Int))
theorem plD_snoc {N : Nat} (ds : List S182) (pre : List (Pl N)) (x : Pl N) : plD ds (pre ++ [x]) = plD ds pre ++ [rd_T182 ds (x.1 : Int)] := by unfold plD; rw [List.map_append]; rfl
theorem plD_len {N : Nat} (ds : List S182) (pre : List (Pl N)) : (plD ds pre).length = pre.length := List.length_map _
theorem wrap_nat (m : Nat) (h : m ≤ 1000000) : wrap64 ((m : Int) + 1) = (m : Int) + 1 := by unfold wrap64; omega
theorem res2 {fn : Func} {s t : Tmp} (h : fn.results = #[.tmp s, .tmp t]) (tmps : Array Value) (P : Program) (w : World) :
  (results fn tmps).run P w = .ok (.tuple #[tmps.getD s undef, tmps.getD t undef]) w := by
 simp [results, h, Sem.run_pure]
set_option maxHeartbeats 8000000 in
set_option maxRecDepth 100000 in
theorem fixpoint_Derive.calls (k : Nat) (A0 : Option Addr) (c0 : Nat) (l0 : List (List S58)) (a1 : Int) (a2 : Int) (r1 : List S182) (r2 : Int) (w : World) (hr0 : Kd.C (Kd.slice 58 k58) w A0 l0.length l0) (hc0 : l0.length ≤ c0) (h : fixpoint_Derive.f k l0 a1 a2 = some (r1, r2)) :
  Calls Try.prog 37 #[.slice A0 l0.length c0, .int .i64 a1, .int .i64 a2] w fun e w' => ∃ v0_ : Value, e = .returned (.tuple #[v0_, .int .i64 r2]) ∧ Kd.R k182 182 w' w.heap.size (fun _ => True) v0_ r1 ∧ Below w.heap.size w w' := by
 unfold fixpoint_Derive.f at h
 obtain ⟨e, hck, h⟩ := Option.bind_eq_some_iff.1 h
 have HR := Aside0.mk hr0
 have HCK := Aside0.mk hck
 have H := Aside0.mk h
 clear hr0 hck h
 refine (callsIn_wide (n := 9)).1 (callsIn_of_wp_marks Try.func37 rfl trivial ?_ rfl)
 refine wpIn_wide.2 ?_
 simp only [Try.ntmps37, List.size_toArray, List.length_cons, List.length_nil, Nat.reduceAdd, Nat.reduceSub, Array.replicate_succ, Array.replicate_zero, List.push_toArray, List.append_toArray, List.nil_append, List.cons_append]
 go_upto_region 1 with (fail)
 obtain ⟨W1, hW1⟩ : ∃ W1, (w.alloc (.cells #[.slice A0 l0.length c0] 47)).alloc (.cells #[.int .i64 a1] 3) = W1 := ⟨_, rfl⟩
 have hb1 : Below w.heap.size w W1 := by rw [← hW1]; exact below_alloc (below_alloc (Below.refl _ _) _) _
 have h3 : W1.heap[w.heap.size]? = some (.cells #[.slice A0 l0.length c0] 47 (0, 0)) := by rw [← hW1]; exact hb_alloc (hb_new w _)
 have h4 : W1.heap[w.heap.size + 1]? = some (.cells #[.int .i64 a1] 3 (0, 0)) := by
  rw [← hW1]
  have := hb_new (w.alloc (.cells #[.slice A0 l0.length c0] 47)) (.cells #[.int .i64 a1] 3)
  rwa [World.size_alloc] at this
 rw [hW1]
 clear hW1
 have x3 := cell_of_blk h3
 have HB1 := Aside0.mk hb1
 have H3 := Aside0.mk h3
 have H4 := Aside0.mk h4
 clear hb1 h3 h4
 go_upto_region 2 with (go_at_call 98; refine (fixpoint_Check.calls k A0 c0 l0 e _ (Kd.C_below HR.out HB1.out) hc0 HCK.out).mono ?_; rintro e' w2 ⟨rfl, hb2⟩)
 have HB2 := Aside0.mk (HB1.out.trans (hb2.mono HB1.out.size))
 have G3 := Aside0.mk ((hb2.block _ (lt_of_blk H3.out)).trans H3.out)
 have G4 := Aside0.mk ((hb2.block _ (lt_of_blk H4.out)).trans H4.out)
 clear hb2 x3
 have x3 := cell_of_blk G3.out
 have x4 := cell_of_blk G4.out
 have h := H.out
 by_cases c1 : e ≠ 0
 ·rw [if_neg c1] at h
  injection h with h
  injection h with e1 e2
  subst e1 e2
  have b1 : (e != 0) = true := by simp [c1]
  go_wp2
  exact ⟨_, res2 rfl _ _ _, _, rfl, Kd.R_nil _ _ _ _ _, HB2.out⟩
 have c1 : e = 0 := Decidable.not_not.1 c1
 rw [if_pos c1] at h
 subst c1
 clear H
 go_upto_region 4 with (fail)
 by_cases c2 : a1 < 0
 ·rw [if_pos (.inl c2)] at h
  injection h with h
  injection h with e1 e2
  subst e1 e2
  have b1 : decide (a1 < 0) = true := decide_eq_true c2
  go_wp2
  exact ⟨_, res2 rfl _ _ _, _, rfl, Kd.R_nil _ _ _ _ _, HB2.out⟩
 have b2 : decide (a1 < 0) = false := decide_eq_false c2
 by_cases c3 : a1 ≥ (l0.length : Int)
 ·rw [if_pos (.inr (.inl c3))] at h
  injection h with h
  injection h with e1 e2
  subst e1 e2
  have b3 : decide (a1 ≥ (l0.length : Int)) = true := decide_eq_true c3
  go_wp2
  exact ⟨_, res2 rfl _ _ _, _, rfl, Kd.R_nil _ _ _ _ _, HB2.out⟩
 have b3 : decide (a1 ≥ (l0.length : Int)) = false := decide_eq_false c3
 by_cases c4 : a2 < 0
 ·rw [if_pos (.inr (.inr (.inl c4)))] at h
  injection h with h
  injection h with e1 e2
  subst e1 e2
  have b4 : decide (a2 < 0) = true := decide_eq_true c4
  go_wp2
  exact ⟨_, res2 rfl _ _ _, _, rfl, Kd.R_nil _ _ _ _ _, HB2.out⟩
 have b4 : decide (a2 < 0) = false := decide_eq_false c4
 by_cases c5 : a2 ≥ 20
 ·rw [if_pos (.inr (.inr (.inr c5)))] at h
  injection h with h
  injection h with e1 e2
  subst e1 e2
  have b5 : decide (a2 ≥ 20) = true := decide_eq_true c5
  go_wp2
  exact ⟨_, res2 rfl _ _ _, _, rfl, Kd.R_nil _ _ _ _ _, HB2.out⟩
 have b5 : decide (a2 ≥ 20) = false := decide_eq_false c5
 rw [if_neg (by omega)] at h
 obtain ⟨ds, hds, h⟩ := Option.bind_eq_some_iff.1 h
 obtain ⟨ix, hix, h⟩ := Option.bind_eq_some_iff.1 h
 have HDS := Aside0.mk hds
 have HIX := Aside0.mk hix
 have H := Aside0.mk h
 have HP := Aside0.mk (And.intro c2 c3)
 clear hds hix h c2 c3 c4 c5
 go_upto_region 7 with (go_at_call 104; refine (fixpoint_derivations.calls k A0 c0 l0 a2 ds _ (Kd.C_below HR.out HB2.out) hc0 HDS.out).mono ?_; rintro e' w3 ⟨v3, rfl, hr3, hb3⟩; obtain ⟨D3, q3, e3⟩ := Kd.R_slice hr3; subst e3)
 have HB3 := Aside0.mk (HB2.out.trans (hb3.mono HB2.out.size))
 have F3 := Aside0.mk ((hb3.block _ (lt_of_blk G3.out)).trans G3.out)
 have F4 := Aside0.mk ((hb3.block _ (lt_of_blk G4.out)).trans G4.out)
 have HR3 := Aside0.mk (Kd.R_lower hr3 HB2.out.size)
 clear hb3 x3 x4 hr3
 obtain ⟨_, hq3, hC3⟩ := Kd.R_reads' HR3.out
 have HC3 := Aside0.mk hC3
 clear hC3
 go_upto_region 8 with (go_at_call 105; refine (slices_IndexFunc_105_at_106_3.calls k D3 q3 ds (w.heap.size + 1) a1 ix _ HC3.out hq3 F4.out HIX.out).mono ?_; rintro e' w4 ⟨rfl, hb4⟩)
 have HB4 := Aside0.mk (HB3.out.trans (hb4.mono HB3.out.size))
 have hz34 : w3.heap.size ≤ w4.heap.size := hb4.size
 have E3 := Aside0.mk ((hb4.block _ (lt_of_blk F3.out)).trans F3.out)
 have E4 := Aside0.mk ((hb4.block _ (lt_of_blk F4.out)).trans F4.out)
 have HC4 := Aside0.mk (Kd.C_below HC3.out hb4)
 have HR4 := Aside0.mk (Kd.R_below HR3.out hb4)
 clear hb4
 have x3 := cell_of_blk E3.out
 have x4 := cell_of_blk E4.out
 have h := H.out
 clear H
 by_cases c6 : ix < 0
 ·rw [if_pos c6] at h
  injection h with h
  injection h with e1 e2
  subst e1 e2
  have b6 : decide (ix < 0) = true := decide_eq_true c6
  go_wp2
  exact ⟨_, res2 rfl _ _ _, _, rfl, Kd.R_nil _ _ _ _ _, HB4.out⟩
 have b6 : decide (ix < 0) = false := decide_eq_false c6
 rw [if_neg c6] at h
 obtain ⟨m, rfl⟩ : ∃ m : Nat, ix = (m : Int) := ⟨ix.toNat, by omega⟩
 rw [Int.toNat_natCast] at h
 obtain ⟨s, rfl⟩ : ∃ s : Nat, a1 = (s : Int) := ⟨a1.toNat, by have := HP.out; omega⟩
 rw [Int.toNat_natCast] at h
 by_cases hgd : (m : Int) < (ds.length : Int) ∧ goodS l0 ds = true ∧ ds.length ≤ 1000000 ∧ l0.length ≤ 1000000
 case neg => rw [if_neg hgd] at h; cases h
 rw [if_pos hgd] at h
 obtain ⟨rv, hrv, h⟩ := Option.bind_eq_some_iff.1 h
 injection h with h
 injection h with e1 e2
 subst e1 e2
 have HRV := Aside0.mk hrv
 have HGD := Aside0.mk hgd
 have p6 : ((0 : Int) ≤ (l0.length : Int)) = True := eq_true (by omega)
 have q6 : l0.length ≤ 1000000 := hgd.2.2.2
 clear hrv hgd c6 H3 H4 G3 G4 F3 F4
 go_upto_region 11 with (refine Kd.R_make Kd.bool _ 4 rfl (N := 48) rfl 184 _ _ rfl (l0.length : Int) rfl rfl Try.underlying184 (.bool false) 1 info4 rfl (by decide) (by omega) false (ok := fun _ => True) (okp := fun _ => True) rfl (fun _ hk => hk) trivial (by omega) (by omega) (Below.refl _ _) (Nat.le_refl _) ?_; intro v6 w6 ho6 hb6 hg6 hn6; rw [Int.toNat_natCast] at ho6; obtain ⟨g6, k6, e6, hg61, hg62, hg63, hg64⟩ := Kd.R_form ho6 (by rw [List.length_replicate]; have := HP.out; omega); rw [List.length_replicate] at e6; subst e6; (have HO6 := Aside0.mk ho6); (have HB6 := Aside0.mk (hb6)); clear ho6 hb6 hg6 hn6)
 have hsl : s < l0.length := by have := HP.out.2; omega
 obtain ⟨W7, hW7⟩ : ∃ W7, w6.alloc (.cells #[.slice (some ⟨g6, 0, none⟩) l0.length k6] 184) = W7 := ⟨_, rfl⟩
 have hz4 : w.heap.size + 2 ≤ w4.heap.size := lt_of_blk E4.out
 have hz6 : w4.heap.size ≤ w6.heap.size := HB6.out.size
 have hb67 : Below w6.heap.size w6 W7 := by rw [← hW7]; exact below_alloc (Below.refl _ _) _
 have hz7 : W7.heap.size = w6.heap.size + 1 := by rw [← hW7]; simp
 have hN7 : W7.heap[w6.heap.size]? = some (.cells #[.slice (some ⟨g6, 0, none⟩) l0.length k6] 184 (0, 0)) := by rw [← hW7]; exact hb_new _ _
 rw [hW7]
 clear hW7
 have hb47 : Below w4.heap.size w4 W7 := HB6.out.trans (hb67.mono hz6)
 have HB7 := Aside0.mk (HB4.out.trans (hb47.mono HB4.out.size))
 have D3' := Aside0.mk ((hb47.block _ (lt_of_blk E3.out)).trans E3.out)
 have D4' := Aside0.mk ((hb47.block _ (lt_of_blk E4.out)).trans E4.out)
 have HO7 := Aside0.mk (Kd.R_below HO6.out hb67)
 have HC7 := Aside0.mk (Kd.C_below HC4.out hb47)
 have hg7 := (hb67.block _ hg62).trans hg64
 obtain ⟨adn, han, hxn⟩ := Kd.at_bool (Kd.R_reads' HO7.out).2.2 (s : Int) (by omega) (by rw [List.length_replicate]; omega)
 cases han
 rw [Int.toNat_natCast] at hxn
 have hfn := blk_frozen hg7 s
 have e11 := cell_of_blk hN7
 clear x3 x4
 have x3 := cell_of_blk D3'.out
 have x4 := cell_of_blk D4'.out
 have p7 : ((s : Int) < (l0.length : Int)) = True := eq_true (by omega)
 have p8 : (s < l0.length) = True := eq_true hsl
 simp only [add_plain] at hxn
 go_upto_region 12 with (fail)
 clear hxn hfn
 obtain ⟨W8, hW8⟩ : ∃ W8, W7.setCell ⟨g6, s, none⟩ (.bool true) = W8 := ⟨_, rfl⟩
 have hch : Chg (fun k => k = g6) W7 W8 := by rw [← hW8]; exact Chg.set _ _ _ rfl
 have HO8 := Aside0.mk (show Kd.bool.R 4 W8 w4.heap.size (fun _ => True) (.slice (some ⟨g6, 0, none⟩) l0.length k6) ((List.replicate l0.length false).set s true) by
  have := Kd.R_putn HO7.out (s : Int) true
  rw [Int.toNat_natCast] at this
  rw [← hW8]
  exact this)
 have hgs : g6 < W7.heap.size := by omega
 have F3 := Aside0.mk (hch.at D3'.out (by omega))
 have F4 := Aside0.mk (hch.at D4'.out (by omega))
 have F11 := Aside0.mk (hch.at hN7 (by omega))
 have hz8 : W8.heap.size = w6.heap.size + 1 := by rw [← hW8]; simpa using hz7
 have HB8 := Aside0.mk (HB7.out.trans (hch.to_below (fun k _ e => by omega) (by omega)) : Below w.heap.size w W8)
 have hmd : m < ds.length := by have := HGD.out.1; omega
 obtain ⟨gd, cd, ed, hgd1, hgd4, cgd, hcg4⟩ := Kd.R_form HR4.out (by omega)
 injection ed with ed1 _ ed2
 subst ed1 ed2
 have HCG8 := Aside0.mk (hch.at ((hb47.block gd hgd4).trans hcg4) (by show ¬ gd = g6; omega))
 clear hcg4
 have HC8 := Aside0.mk (C182_same HC7.out (hch.block _ (by show gd < _; omega) (by show ¬ gd = g6; omega)))
 rw [hW8]
 clear hW8 e11 x3 x4
 have hds : ds.length ≤ 1000000 := HGD.out.2.2.1
 go_upto_region 13 with (fail)
 obtain ⟨W9, hW9⟩ : ∃ W9, W8.alloc (.cells #[.slice none 0 0] 69) = W9 := ⟨_, rfl⟩
 have hb89 : Below W8.heap.size W8 W9 := by rw [← hW9]; exact below_alloc (Below.refl _ _) _
 have hz9 : W9.heap.size = w6.heap.size + 2 := by rw [← hW9]; simp; omega
 have hN9 : W9.heap[w6.heap.size + 1]? = some (.cells #[.slice none 0 0] 69 (0, 0)) := by rw [← hW9, ← hz8]; exact hb_new _ _
 rw [hW9]
 clear hW9
 have HO9 := Aside0.mk (Kd.R_below HO8.out hb89)
 have HC9 := Aside0.mk (Kd.C_below HC8.out hb89)
 have HCG9 := Aside0.mk ((hb89.block gd (lt_of_blk HCG8.out)).trans HCG8.out)
 have HB9 := Aside0.mk (HB8.out.trans (hb89.mono HB8.out.size))
 have J3 := Aside0.mk ((hb89.block _ (lt_of_blk F3.out)).trans F3.out)
 have J4 := Aside0.mk ((hb89.block _ (lt_of_blk F4.out)).trans F4.out)
 have J11 := Aside0.mk ((hb89.block _ (lt_of_blk F11.out)).trans F11.out)
 have J12 := Aside0.mk hN9
 clear hb89 hN9 F3 F4 F11 D3' D4' hb67 hb47 hch hg7 hg64
 obtain ⟨N, hN⟩ : ∃ N : Nat, N = m + 1 := ⟨_, rfl⟩
 have p9 : ((N : Int) ≤ (q3 : Int)) = True := eq_true (by omega)
 have p10 : (N ≤ q3) = True := eq_true (by omega)
 have wr1 : wrap64 ((m : Int) + 1) = (N : Int) := by rw [wrap_nat m (Nat.le_trans (Nat.le_of_lt hmd) hds), hN]; rfl
 have HN := Aside0.mk hN
 clear hN
 have HBK := Aside0.mk (callsIn_wide.1 (back_in Fence.wide 9 trivial rfl (some ⟨gd, 0, none⟩) (m + 1) q3 W9))
 go_wp2_with (go_at_call 107; refine HBK.out.mono ?_; rintro e' w10 ⟨rfl, rfl⟩)
 clear wr1 p9 p10 HBK p6 p7 p8 HCK HDS HIX HR3 HC3 HC4 HC7 HC8 HO6 HO7 HO8 HB1 HB2 HB3 HB4 HB6 HB7 HB8 b2 b3 b4 b5 b6 c1 E3 E4 J4 HR4
 obtain ⟨b11, hb11⟩ : ∃ b11, w6.heap.size = b11 := ⟨_, rfl⟩
 obtain ⟨bs4, hbs4⟩ : ∃ b, w4.heap.size = b := ⟨_, rfl⟩
 rw [hbs4] at HO9 hz4 hz6 hg61 hgd4
 rw [hb11] at J11 J12 hz9 hz6 hg62
 have hb11' : ∀ (v : Value), (Value.pointer (some ⟨w6.heap.size + 2, 0, none⟩)) = (Value.pointer (some ⟨b11 + 2, 0, none⟩)) := fun _ => by rw [hb11]
 simp only [hb11]
 obtain ⟨W0, hW0⟩ : ∃ W0, W9.alloc (.cells #[.slice (some ⟨gd, 0, none⟩) (m + 1) q3] 69) = W0 := ⟨_, rfl⟩
 have hb90 : Below W9.heap.size W9 W0 := by rw [← hW0]; exact below_alloc (Below.refl _ _) _
 have hz0 : W0.heap.size = b11 + 3 := by rw [← hW0, World.size_alloc]; omega
 have hN0 : W0.heap[b11 + 2]? = some (.cells #[.slice (some ⟨gd, 0, none⟩) (m + 1) q3] 69 (0, 0)) := by rw [← hW0, ← hz9]; exact hb_new _ _
 rw [hW0]
 clear hW0 hb11'
 have hC0 : Kd.C k182 W0 (some ⟨gd, 0, none⟩) (ds.take (m + 1)).length (ds.take (m + 1)) := Kd.C_take (Kd.C_below HC9.out hb90) (by omega)
 have hlt : (ds.take (m + 1)).length = m + 1 := by rw [List.length_take]; omega
 rw [hlt] at hC0
 have hww : w.heap.size ≤ W0.heap.size := by omega
 have hI0 : DerI w W0 b11 g6 k6 gd bs4 (.slice A0 l0.length c0) l0.length ((List.replicate l0.length false).set s true, []) W0 := by
  obtain ⟨cg6, hcg6⟩ := Kd.R_typed HO9.out g6 rfl
  refine ⟨(hb90.block _ (lt_of_blk J3.out)).trans J3.out, (hb90.block _ (lt_of_blk J11.out)).trans J11.out, ⟨.slice none 0 0, (hb90.block _ (lt_of_blk J12.out)).trans J12.out, Kd.R_nil _ _ _ _ _⟩, ⟨Kd.R_mono (Kd.R_tight rfl (Kd.R_below HO9.out hb90)) (fun k hk => ?_), cg6, (hb90.block _ (lt_of_blk hcg6)).trans hcg6⟩, ?_, ⟨rfl, rfl⟩, HB9.out.trans (hb90.mono HB9.out.size), Nat.le_refl _⟩
  ·injection hk
  ·exact ⟨cgd, (hb90.block gd (lt_of_blk HCG9.out)).trans HCG9.out⟩
 have hmN : m + 1 ≤ 140737488355328 := by omega
 have hrd : ∀ x : Pl (m + 1), rd_T182 (ds.take (m + 1)) (x.1 : Int) = rd_T182 ds (x.1 : Int) := fun x => by
  unfold rd_T182
  rw [Int.toNat_natCast, List.getD_eq_getElem?_getD, List.getD_eq_getElem?_getD, List.getElem?_take_of_lt x.2]
 refine (wpIn_wide (n := 9)).1 ?_
 refine wpIn_rangeFunc_ownH rfl (by omega) (gf := 178) (lb := #[.pointer (some ⟨b11 + 2, 0, none⟩)]) rfl trivial (enters_of Try.func178 (by kernel_rfl) rfl)
  (back_stops Fence.wide (9 - 1) trivial rfl (by omega) (b11 + 2) ⟨gd, 0, none⟩ (m + 1) q3 (ds.take (m + 1)) hmN (by omega) (by omega) W0 hN0 hC0) KpD.trans ?kb (Below.refl _ _) (fun _ => rfl)
  (fun pre W => DerI w W0 b11 g6 k6 gd bs4 (.slice A0 l0.length c0) l0.length (backD l0 ((List.replicate l0.length false).set s true) (plD ds pre)) W) (fun _ _ _ => False) (DerI.own _ hww (by omega)) (fun _ _ _ _ _ hs _ _ => hs) hI0
  (fun x a' W => ∃ Bx, W0.heap.size ≤ Bx ∧ W.heap[Bx]? = some (.cells #[.int .i64 (rd_T182 ds (x.1 : Int)).f0, .int .i64 (rd_T182 ds (x.1 : Int)).f1, .int .i64 (rd_T182 ds (x.1 : Int)).f2] 182 (0, 0)) ∧ (∀ v, W.heap[b11 + 1]? = some (.cells #[v] 69 (0, 0)) → v.ownBlock ≠ some Bx) ∧ a' = { tmps := #[.slice A0 l0.length c0, .int .i64 (s : Int), .int .i64 a2, .pointer (some ⟨w.heap.size, 0, none⟩), .pointer (some ⟨w.heap.size + 1, 0, none⟩), undef, .slice none 0 0, .int .i64 0, .int .i64 0, .slice (some ⟨gd, 0, none⟩) ds.length q3, .int .i64 (m : Int), .pointer (some ⟨b11, 0, none⟩), .pointer (some ⟨b11 + 1, 0, none⟩), undef, (.pointer (some ⟨Bx, 0, none⟩)), undef, undef, .slice A0 l0.length c0, .int .i64 0, .int .i64 0, .bool false, undef, .int .i64 (s : Int), .bool false, .bool false, .int .i64 (s : Int), .slice A0 l0.length c0, .int .i64 (l0.length : Int), .bool false, .bool false, .bool false, .int .i64 a2, .bool false, .bool false, .bool false, .int .i64 a2, .bool false, .bool false, .slice A0 l0.length c0, .int .i64 a2, .slice (some ⟨gd, 0, none⟩) ds.length q3, .slice (some ⟨gd, 0, none⟩) ds.length q3, .func (.func 106) #[] #[.pointer (some ⟨w.heap.size + 1, 0, none⟩)], .int .i64 (m : Int), .int .i64 (m : Int), .bool false, .slice A0 l0.length c0, .int .i64 (l0.length : Int), .slice (some ⟨g6, 0, none⟩) l0.length k6, .slice (some ⟨g6, 0, none⟩) l0.length k6, .int .i64 (s : Int), .pointer (some ⟨g6, s, none⟩), .slice (some ⟨gd, 0, none⟩) ds.length q3, .int .i64 (m : Int), .int .i64 ((m : Int) + 1), .slice (some ⟨gd, 0, none⟩) (m + 1) q3, .func (.func 178) #[] #[.pointer (some ⟨b11 + 2, 0, none⟩)], (.int .i64 (x.1 : Int)), (.agg #[.int .i64 (rd_T182 ds (x.1 : Int)).f0, .int .i64 (rd_T182 ds (x.1 : Int)).f1, .int .i64 (rd_T182 ds (x.1 : Int)).f2]), undef, undef, undef, undef, undef, undef, undef, undef, undef, undef, undef, undef, undef, undef, undef, undef, undef, undef, undef, undef, undef, undef, undef, undef, undef, undef, undef, undef, undef, undef, undef, undef], defers := [] })
  (fun x a' _ X Y row hs hg hr => by
   obtain ⟨Bx, h1, h2, h4, h3⟩ := hs
   have hBl := lt_of_blk h2
   refine ⟨Bx, h1, (hg.block Bx hBl (fun e => ?_)).trans h2, fun v hv => h4 v ((hg.block (b11 + 1) (by omega) (fun e => by have := (hr _ e.symm).1; omega)).symm.trans hv), h3⟩
   obtain ⟨_, o, ho, hc⟩ := hr Bx e.symm
   rw [h2] at ho
   injection ho with ho
   subst ho
   cases hc)
  ?assign ?body ?done ?stop
 case kb =>
  intro W l o o' hl ho _ _
  have n2 : b11 + 2 ≠ l := by omega
  have n3 : gd ≠ l := by omega
  exact ⟨World.putObj_heap_other n2, World.putObj_heap_other n3⟩
 case assign =>
  intro l pre x W K hI hK
  have hsz : W0.heap.size ≤ W.heap.size := hI.2.2.2.2.2.2.2
  unfold encD
  rw [hrd x]
  gi_wp2
  exact hK _ _ ((KeepsOthers.alloc _ _).from _) ⟨Below.heap_alloc W _ _ (by omega), Below.heap_alloc W _ _ (by show gd < _; omega)⟩ (hI.alloc hww (by omega) _) ⟨W.heap.size, hsz, hb_new W _, fun v hv => by
   obtain ⟨v', hv1, hv2⟩ := hI.2.2.1
   have := (Below.heap_alloc W _ (b11 + 1) (by omega)).symm.trans hv
   rw [hv1] at this
   injection this with this
   injection this with this
   have e : v' = v := by simpa using this
   subst e
   intro e
   obtain ⟨cs, hc⟩ := Kd.R_typed hv2 _ e
   exact absurd (lt_of_blk hc) (Nat.lt_irrefl _), rfl⟩
 case body =>
  rintro l pre x a' W hl _ hI ⟨Bx, hBx, bX, hsep, rfl⟩ hlen
  obtain ⟨p, hp⟩ : ∃ p, backD l0 ((List.replicate l0.length false).set s true) (plD ds pre) = p := ⟨_, rfl⟩
  obtain ⟨d, hd⟩ : ∃ d, rd_T182 ds (x.1 : Int) = d := ⟨_, rfl⟩
  have hnext : backD l0 ((List.replicate l0.length false).set s true) (plD ds (pre ++ [x])) = stepD l0 p d := by
   rw [plD_snoc]
   unfold backD at hp ⊢
   rw [List.foldl_append, hp, hd]
   rfl
  have hlens := backD_len l0 ((List.replicate l0.length false).set s true) (plD ds pre) []
  unfold backD at hp
  rw [hp, List.length_set, List.length_replicate, plD_len] at hlens
  have hp' : backD l0 ((List.replicate l0.length false).set s true) (plD ds pre) = p := hp
  have hgood : goodD l0 d := by
   have h1 := HGD.out.2.1
   unfold goodS at h1
   have h2 : d ∈ ds := by
    rw [← hd]
    unfold rd_T182
    have hx : x.1 < ds.length := by have := x.2; omega
    rw [Int.toNat_natCast, List.getD_eq_getElem?_getD, List.getElem?_eq_getElem hx]
    exact List.getElem_mem hx
   have := List.all_eq_true.1 h1 d h2
   simpa using this
  obtain ⟨d1, d2, d3, d4, d5⟩ := hgood
  rw [hp'] at hI
  rw [hd] at bX
  have HNX := Aside0.mk hnext
  clear hp hp' hnext hd
  have hsW : W0.heap.size ≤ W.heap.size := hI.2.2.2.2.2.2.2
  have xB0 : W.cell? ⟨Bx, 0, none⟩ = some (.int .i64 d.f0) := (cells_of_blk bX 0).trans rfl
  have x11 := cell_of_blk hI.2.1
  obtain ⟨an, han, hxn⟩ := Kd.at_bool (Kd.R_reads' hI.2.2.2.1.1).2.2 d.f0 d1 (by rw [hlens.1]; exact d2)
  cases han
  simp only [add_plain] at hxn
  have q1 := eq_true d1
  have q2 := eq_true d2
  have HI := Aside0.mk hI
  have HBX := Aside0.mk bX
  have HD5 := Aside0.mk d5
  have HD3 := Aside0.mk d3
  have HD4 := Aside0.mk d4
  have HL := Aside0.mk hlens
  clear hI bX d5 d3 d4 hlens d1 d2
  by_cases c : rdOf false p.1 d.f0 = true
  ·rw [c] at hxn
   have hst : stepD l0 p d = (needRow p.1 (rd_T58 (rd_L3 l0 d.f0) d.f1).f1, p.2 ++ [d]) := by unfold stepD; exact if_pos c
   have HST := Aside0.mk hst
   obtain ⟨v, hv1, hv2⟩ := HI.out.2.2.1
   obtain ⟨V, cv, hvs⟩ := Kd.R_slice hv2
   subst hvs
   have x12 := cell_of_blk hv1
   have xB1 : W.cell? ⟨Bx, 1, none⟩ = some (.int .i64 d.f1) := (cells_of_blk HBX.out 1).trans rfl
   have xB2 : W.cell? ⟨Bx, 2, none⟩ = some (.int .i64 d.f2) := (cells_of_blk HBX.out 2).trans rfl
   have HV1 := Aside0.mk hv1
   have HV2 := Aside0.mk (Kd.R_mono hv2 (fun _ _ => trivial) (ok' := fun _ => True))
   have hb3 : b11 + 3 ≤ W.heap.size := by omega
   have hac : (p.2.length + 1) * 24 ≤ 140737488355328 := by have := HL.out.2; simp only [List.length_nil] at this; omega
   clear hv1 hv2 hst c
   gi_upto_region 17 with (gi_at_builtin; refine in_R_append k182 (w0 := W) (b11 + 3) rfl (.tmp 65) (.tmp 67) 69 182 (.agg #[(.int .i64 0), (.int .i64 0), (.int .i64 0)]) 24 rfl Try.underlying69 info182 rfl (by decide) (by omega) (.slice V p.2.length cv) p.2 d [.int .i64 d.f0, .int .i64 d.f1, .int .i64 d.f2] (fun _ => True) (fun _ => False) rfl rfl (k182_mkM _ _ _ d) (fun _ h => h.elim) (fun _ _ => trivial) HV2.out (Below.refl _ _) hb3 hac ?_; intro v1 w1 ho1 hb1 hg1 hat1; obtain ⟨V1, cv1, hvs1⟩ := Kd.R_slice ho1; subst hvs1; have HO1 := Aside0.mk ho1; have HBB := Aside0.mk hb1; have HG1 := Aside0.mk hg1; have hx1 := (hb1.block (b11 + 1) (by omega)).trans HV1.out; have xx1 := cell_of_blk hx1; have xf1 := blk_frozen hx1 0; clear ho1 hb1 hg1 hat1)
   have hdi := HI.out.push (acc := p.2 ++ [d]) (by omega) hz0.symm hg62 (by omega) HV1.out HO1.out HBB.out
   rw [List.length_append, List.length_singleton] at hdi
   have hBW : Bx < W.heap.size := lt_of_blk HBX.out
   have bX1 : w1.heap[Bx]? = some (.cells #[.int .i64 d.f0, .int .i64 d.f1, .int .i64 d.f2] 182 (0, 0)) := (HG1.out.block Bx hBW (fun e => hsep _ HV1.out e.symm)).trans HBX.out
   have hko : KeepsOthers W (w1.setCell ⟨b11 + 1, 0, none⟩ (.slice V1 (p.2.length + 1) cv1)) := (KeepsOthers.of_grownBy HG1.out (fun j o e ho => by
    obtain ⟨cs, hc⟩ := Kd.R_typed HV2.out j e
    rw [hc] at ho
    injection ho with ho
    subst ho
    rfl)).trans (KeepsOthers.setCell _ _ _)
   obtain ⟨W2, hW2⟩ : ∃ W2, w1.setCell ⟨b11 + 1, 0, none⟩ (.slice V1 (p.2.length + 1) cv1) = W2 := ⟨_, rfl⟩
   have bX2 : W2.heap[Bx]? = some (.cells #[.int .i64 d.f0, .int .i64 d.f1, .int .i64 d.f2] 182 (0, 0)) := by rw [← hW2]; exact (Below.heap_setCell _ _ _ _ (by show Bx ≠ b11 + 1; omega)).trans bX1
   rw [hW2] at hdi hko ⊢
   clear hW2 bX1 xx1 xf1 hx1 HO1 HBB HG1 HV1 HV2 x12 x11 xB0 xB1 xB2 hxn hsep hac
   have hB2 : Below w.heap.size w W2 := hdi.2.2.2.2.2.2.1
   obtain ⟨adL, AL, cL, rfl, xL, hcL, hCL⟩ := at_L3 HR.out d.f0 (of_eq_true q1) (of_eq_true q2)
   obtain ⟨adT, AT, cT, rfl, xT0, xT, hcT, hCT⟩ := at_T58 hCL d.f1 HD3.out HD4.out
   have yL := (hB2.cell (World.block_lt_of_cell? _ _ xL)).trans xL
   have yT := (hB2.cell (World.block_lt_of_cell? _ _ xT)).trans xT
   have y3 := cell_of_blk hdi.1
   have yB0 : W2.cell? ⟨Bx, 0, none⟩ = some (.int .i64 d.f0) := (cells_of_blk bX2 0).trans rfl
   have yB1 : W2.cell? ⟨Bx, 1, none⟩ = some (.int .i64 d.f1) := (cells_of_blk bX2 1).trans rfl
   have q3' := eq_true HD3.out
   have q4' := eq_true HD4.out
   have HDI := Aside0.mk hdi
   have HKO := Aside0.mk hko
   have HCT := Aside0.mk hCT
   clear xL xT xT0 hCL hCT hdi hko
   have hmx : Try.prog.follows .mixedOrders = true := by kernel_rfl
   refine region_round hmx (fun j o hj c e => ?_) (by rintro ⟨a', w', h'⟩; exact h') (wpAny_of_last (S := fun w' => w'.cell? ⟨w.heap.size, 0, none⟩ = some (.slice (some adL) l0.length c0) ∧ w'.cell? ⟨Bx, 0, none⟩ = some (.int .i64 d.f0) ∧ w'.cell? ⟨Bx, 1, none⟩ = some (.int .i64 d.f1) ∧ w'.cell? (adL.add d.f0.toNat) = some (.slice (some adT) (rd_L3 l0 d.f0).length cL) ∧ w'.cell? ⟨(adT.add (d.f1.toNat * 2)).block, (adT.add (d.f1.toNat * 2)).off + 1, none⟩ = some (.slice AT (rd_T58 (rd_L3 l0 d.f0) d.f1).f1.length cT)) (ds := []) _ _ _ _ ?_)
   ·have hm := Array.mem_of_getElem? hj
    simp at hm
    rcases hm with rfl | rfl | rfl | rfl | rfl | rfl | rfl | rfl | rfl | rfl | rfl | rfl <;> cases e
   have hHeld := (show W2.drew.cell? ⟨w.heap.size, 0, none⟩ = some (.slice (some adL) l0.length c0) ∧ W2.drew.cell? ⟨Bx, 0, none⟩ = some (.int .i64 d.f0) ∧ W2.drew.cell? ⟨Bx, 1, none⟩ = some (.int .i64 d.f1) ∧ W2.drew.cell? (adL.add d.f0.toNat) = some (.slice (some adT) (rd_L3 l0 d.f0).length cL) ∧ W2.drew.cell? ⟨(adT.add (d.f1.toNat * 2)).block, (adT.add (d.f1.toNat * 2)).off + 1, none⟩ = some (.slice AT (rd_T58 (rd_L3 l0 d.f0) d.f1).f1.length cT) from ⟨y3, yB0, yB1, yL, yT⟩)
   refine take_ (i := 0) (N := some 69) (v := ?_) (a' := ?_) #[true, false, false, false, false, false, false, false, false, false, false, false] rfl rfl (by kernel_rfl) (fun _ _ _ h => h) (Or.inl ⟨by rfl, ?_⟩) hHeld ?_ ?_
   rotate_left
   ·rintro w' ⟨s0_, s1_, s2_, s3_, s4_⟩
    go_simp
    with_reducible rfl
   rotate_left
   ·simp only [Act.put, List.setIfInBounds_toArray, List.set_cons_zero, List.set_cons_succ, i64_w, i32_w]
    rfl
   refine pure_ (i := 1) (N := some 70) (v := ?_) (a' := ?_) #[true, true, false, false, false, false, false, false, false, false, false, false] rfl rfl (by kernel_rfl) (fun _ _ _ h => h) (Or.inl ⟨by rfl, ?_⟩) ?_ ?_
   rotate_left
   ·intro w'
    go_simp
    with_reducible rfl
   rotate_left
   ·simp only [Act.put, List.setIfInBounds_toArray, List.set_cons_zero, List.set_cons_succ, i64_w, i32_w]
    rfl
   refine take_ (i := 2) (N := some 71) (v := ?_) (a' := ?_) #[true, true, true, false, false, false, false, false, false, false, false, false] rfl rfl (by kernel_rfl) (fun _ _ _ h => h) (Or.inl ⟨by rfl, ?_⟩) hHeld ?_ ?_
   rotate_left
   ·rintro w' ⟨s0_, s1_, s2_, s3_, s4_⟩
    go_simp
    with_reducible rfl
   rotate_left
   ·simp only [Act.put, List.setIfInBounds_toArray, List.set_cons_zero, List.set_cons_succ, i64_w, i32_w]
    rfl
   refine pure_ (i := 3) (N := some 72) (v := ?_) (a' := ?_) #[true, true, true, true, false, false, false, false, false, false, false, false] rfl rfl (by kernel_rfl) (fun _ _ _ h => h) (Or.inl ⟨by rfl, ?_⟩) ?_ ?_
   rotate_left
   ·intro w'
    go_simp
    with_reducible rfl
   rotate_left
   ·simp only [Act.put, List.setIfInBounds_toArray, List.set_cons_zero, List.set_cons_succ, i64_w, i32_w]
    rfl
   refine take_ (i := 4) (N := some 73) (v := ?_) (a' := ?_) #[true, true, true, true, true, false, false, false, false, false, false, false] rfl rfl (by kernel_rfl) (fun _ _ _ h => h) (Or.inl ⟨by rfl, ?_⟩) hHeld ?_ ?_
   rotate_left
   ·rintro w' ⟨s0_, s1_, s2_, s3_, s4_⟩
    go_simp
    with_reducible rfl
   rotate_left
   ·simp only [Act.put, List.setIfInBounds_toArray, List.set_cons_zero, List.set_cons_succ, i64_w, i32_w]
    rfl
   refine pure_ (i := 5) (N := some 74) (v := ?_) (a' := ?_) #[true, true, true, true, true, true, false, false, false, false, false, false] rfl rfl (by kernel_rfl) (fun _ _ _ h => h) (Or.inl ⟨by rfl, ?_⟩) ?_ ?_
   rotate_left
   ·intro w'
    go_simp
    with_reducible rfl
   rotate_left
   ·simp only [Act.put, List.setIfInBounds_toArray, List.set_cons_zero, List.set_cons_succ, i64_w, i32_w]
    rfl
   refine take_ (i := 6) (N := some 75) (v := ?_) (a' := ?_) #[true, true, true, true, true, true, true, false, false, false, false, false] rfl rfl (by kernel_rfl) (fun _ _ _ h => h) (Or.inl ⟨by rfl, ?_⟩) hHeld ?_ ?_
   rotate_left
   ·rintro w' ⟨s0_, s1_, s2_, s3_, s4_⟩
    go_simp
    with_reducible rfl
   rotate_left
   ·simp only [Act.put, List.setIfInBounds_toArray, List.set_cons_zero, List.set_cons_succ, i64_w, i32_w]
    rfl
   refine pure_ (i := 7) (N := some 76) (v := ?_) (a' := ?_) #[true, true, true, true, true, true, true, true, false, false, false, false] rfl rfl (by kernel_rfl) (fun _ _ _ h => h) (Or.inl ⟨by rfl, ?_⟩) ?_ ?_
   rotate_left
   ·intro w'
    go_simp
    with_reducible rfl
   rotate_left
   ·simp only [Act.put, List.setIfInBounds_toArray, List.set_cons_zero, List.set_cons_succ, i64_w, i32_w]
    rfl
   refine pure_ (i := 8) (N := some 77) (v := ?_) (a' := ?_) #[true, true, true, true, true, true, true, true, true, false, false, false] rfl rfl (by kernel_rfl) (fun _ _ _ h => h) (Or.inl ⟨by rfl, ?_⟩) ?_ ?_
   rotate_left
   ·intro w'
    go_simp
    with_reducible rfl
   rotate_left
   ·simp only [Act.put, List.setIfInBounds_toArray, List.set_cons_zero, List.set_cons_succ, i64_w, i32_w]
    rfl
   refine take_ (i := 9) (N := some 78) (v := ?_) (a' := ?_) #[true, true, true, true, true, true, true, true, true, true, false, false] rfl rfl (by kernel_rfl) (fun _ _ _ h => h) (Or.inl ⟨by rfl, ?_⟩) hHeld ?_ ?_
   rotate_left
   ·rintro w' ⟨s0_, s1_, s2_, s3_, s4_⟩
    go_simp
    with_reducible rfl
   rotate_left
   ·simp only [Act.put, List.setIfInBounds_toArray, List.set_cons_zero, List.set_cons_succ, i64_w, i32_w]
    rfl
   refine pure_ (i := 10) (N := some 79) (v := ?_) (a' := ?_) #[true, true, true, true, true, true, true, true, true, true, true, false] rfl rfl (by kernel_rfl) (fun _ _ _ h => h) (Or.inl ⟨by rfl, ?_⟩) ?_ ?_
   rotate_left
   ·intro w'
    go_simp
    with_reducible rfl
   rotate_left
   ·simp only [Act.put, List.setIfInBounds_toArray, List.set_cons_zero, List.set_cons_succ, i64_w, i32_w]
    rfl
   refine pure_ (i := 11) (N := some 80) (v := ?_) (a' := ?_) #[true, true, true, true, true, true, true, true, true, true, true, true] rfl rfl (by kernel_rfl) (fun _ _ _ h => h) (Or.inl ⟨by rfl, ?_⟩) ?_ ?_
   rotate_left
   ·intro w'
    go_simp
    with_reducible rfl
   rotate_left
   ·simp only [Act.put, List.setIfInBounds_toArray, List.set_cons_zero, List.set_cons_succ, i64_w, i32_w]
    rfl
   refine done_ (by kernel_rfl) ?_
   have HD6 := Aside0.mk (show ∀ j : Nat, j < (rd_T58 (rd_L3 l0 d.f0) d.f1).f1.length → 0 ≤ rd (rd_T58 (rd_L3 l0 d.f0) d.f1).f1 (j : Int) ∧ rd (rd_T58 (rd_L3 l0 d.f0) d.f1).f1 (j : Int) < (l0.length : Int) by
    intro j hj
    refine HD5.out _ ?_
    unfold rd
    rw [Int.toNat_natCast, List.getD_eq_getElem?_getD, List.getElem?_eq_getElem hj]
    exact List.getElem_mem hj)
   clear hHeld y3 yB0 yB1 yL yT q1 q2 q3' q4' HD5 bX2 hB2
   obtain ⟨js, hjs⟩ : ∃ js, (rd_T58 (rd_L3 l0 d.f0) d.f1).f1 = js := ⟨_, rfl⟩
   rw [hjs] at HST HCT hcT HD6 ⊢
   obtain ⟨W3, hW3⟩ : ∃ W3, W2.drew = W3 := ⟨_, rfl⟩
   have HDI3 := Aside0.mk (show DerI w W0 b11 g6 k6 gd bs4 (.slice (some adL) l0.length c0) l0.length (p.1, p.2 ++ [d]) W3 by
    rw [← hW3]
    exact HDI.out.keep ((Below.refl _ _).drew) (Nat.le_refl _) (fun _ _ _ _ => rfl) (fun h => h))
   have HKO3 := Aside0.mk (show KeepsOthers W W3 by rw [← hW3]; exact HKO.out.trans (KeepsOthers.drew _))
   rw [hW3]
   clear hW3 HDI HKO
   gi_wp2
   gi_loopw [80] (fun i wr => ∃ j : Nat, i = .int .i64 (j : Int) ∧ j ≤ js.length ∧ Aside0 (DerI w W0 b11 g6 k6 gd bs4 (.slice (some adL) l0.length c0) l0.length (needRow p.1 (js.take j), p.2 ++ [d]) wr ∧ KeepsOthers W wr)) (fun i _ => js.length - (intOf i).toNat)
   case atStart => exact ⟨0, rfl, by omega, ⟨by rw [List.take_zero]; exact HDI3.out, HKO3.out⟩⟩
   case round =>
    obtain ⟨j, rfl, hj, hR⟩ := hrel
    have hDr := hR.out.1
    have hBr : Below w.heap.size w wr := hDr.2.2.2.2.2.2.1
    have y11 := cell_of_blk hDr.2.1
    by_cases c : j < js.length
    ·obtain ⟨aJ, rfl, xJ⟩ := Kd.at_int (Kd.C_below HCT.out hBr) (j : Int) (by omega) (by omega)
     obtain ⟨v0, v1⟩ := HD6.out j c
     obtain ⟨v, hv⟩ : ∃ v, rd js (j : Int) = v := ⟨_, rfl⟩
     have hnl : (needRow p.1 (js.take j)).length = l0.length := (needRow_len _ _).trans HL.out.1
     have hnt := needRow_take p.1 js j c
     rw [hv] at v0 v1 xJ hnt
     rw [Int.toNat_natCast] at xJ
     obtain ⟨an, han, xn⟩ := Kd.at_bool (Kd.R_reads' hDr.2.2.2.1.1).2.2 v v0 (by rw [hnl]; exact v1)
     cases han
     simp only [add_plain] at xn
     obtain ⟨c6, hc6⟩ := hDr.2.2.2.1.2
     have xf := blk_frozen hc6 v.toNat
     have HM := Aside0.mk (hDr.mark (by omega) hg62 (by omega) v)
     have HK4 := Aside0.mk (hR.out.2.trans (KeepsOthers.setCell wr ⟨g6, v.toNat, none⟩ (.bool true)))
     have p1 : ((j : Int) < (js.length : Int)) = True := eq_true (by omega)
     have p2 : (0 ≤ v) = True := eq_true v0
     have p3 : (v < (l0.length : Int)) = True := eq_true v1
     have HNT := Aside0.mk hnt
     have HC := Aside0.mk c
     have hjl : j + 1 ≤ 9223372036854775807 := by have := HCT.out.2.1; omega
     clear hDr hBr hR v0 v1 hv hnl hnt hc6 c hj
     gi_wp2
     go_roundw
     case rel =>
      refine ⟨j + 1, by first | rfl | simp, HC.out, ⟨?_, HK4.out⟩⟩
      rw [HNT.out]
      exact HM.out
     case measure => have := HC.out; simp [intOf]; omega
    ·have hje : j = js.length := by omega
     subst hje
     rw [List.take_length] at hDr
     have HDE := Aside0.mk hDr
     have HKE := Aside0.mk hR.out.2
     clear hDr hR hBr y11 c hj
     gi_wp2
     show KeepsFrom _ W wr ∧ KpD _ _ W wr ∧ DerI w W0 b11 g6 k6 gd bs4 (.slice (some adL) l0.length c0) l0.length (backD l0 _ (plD ds (pre ++ [x]))) wr
     have e1 := HDE.out.2.2.2.2.2.1
     have e2 := HI.out.2.2.2.2.2.1
     refine ⟨HKE.out.from _, ⟨e1.1.trans e2.1.symm, e1.2.trans e2.2.symm⟩, ?_⟩
     rw [HNX.out, HST.out]
     exact HDE.out
  ·have c2 : rdOf false p.1 d.f0 = false := by simpa using c
   rw [c2] at hxn
   have hst : stepD l0 p d = p := by unfold stepD; exact if_neg c
   have HST := Aside0.mk hst
   clear hst
   gi_wp2
   refine ⟨KeepsFrom.refl _ _, ⟨rfl, rfl⟩, ?_⟩
   show DerI w W0 b11 g6 k6 gd bs4 (.slice A0 l0.length c0) l0.length (backD l0 _ _) W
   rw [HNX.out, HST.out]
   exact HI.out
 case done =>
  rintro D ys W hD hys hI hK
  have hrv : backD l0 ((List.replicate l0.length false).set s true) (plD ds ys) = backD l0 ((List.replicate l0.length false).set s true) (revD ds (m + 1)) := by
   unfold revD plD
   rw [← hys, List.map_map]
   rfl
  rw [hrv] at hI
  obtain ⟨v, hv1, hv2⟩ := hI.2.2.1
  have HI := Aside0.mk hI
  have HV1 := Aside0.mk hv1
  have HV2 := Aside0.mk hv2
  have x12 := cell_of_blk hv1
  clear hI hrv hv1 hv2 hys
  have hR0 : Kd.R k182 182 W w.heap.size (fun k => some k = v.ownBlock) v (backD l0 ((List.replicate l0.length false).set s true) (revD ds (m + 1))).2 := Kd.R_lower HV2.out (by omega)
  have HRC := Aside0.mk (api_QDerivation_108.calls k (fun k => some k = v.ownBlock) v _ rv w W HI.out.2.2.2.2.2.2.1 hR0 HRV.out)
  clear hR0
  have hsW : W0.heap.size ≤ W.heap.size := HI.out.2.2.2.2.2.2.2
  have hDW : D < W.heap.size := lt_of_blk hK
  have HKD := Aside0.mk hK
  clear hK
  have hbv : ∀ k, v.ownBlock = some k → b11 + 3 ≤ k := Kd.R_base HV2.out
  have hDv : v.ownBlock ≠ some D := fun e => by
   obtain ⟨cs, hc⟩ := Kd.R_typed HV2.out D e
   rw [HKD.out] at hc
   cases hc
  have hb1v : v.ownBlock ≠ some (b11 + 1) := fun e => by have := hbv _ e; omega
  have HBV := Aside0.mk hbv
  have HDV := Aside0.mk hDv
  have HB1V := Aside0.mk hb1v
  have hlt12 : b11 + 1 < W.heap.size := lt_of_blk HV1.out
  clear hbv hDv hb1v
  go_wp2_with (go_at_call 108; refine HRC.out.mono ?_; rintro e' w' ⟨rfl, hr', hb', hk'⟩; have HR' := Aside0.mk hr'; have HB' := Aside0.mk hb'; have HK' := Aside0.mk hk'; have hx' := (hk'.2 _ hlt12 (fun e => HB1V.out e.symm)).trans HV1.out; have xx' := cell_of_blk hx'; clear hr' hb' hk')
  have hK2 : w'.heap[D]? = some (.deferred (some [])) := (HK'.out.2 D hDW (fun e => HDV.out e.symm)).trans HKD.out
  refine ⟨by simp, .inl ⟨_, _, rfl, run_takeDeferred hK2, ⟨_, res2 rfl _ _ _, ⟨_, rfl, ?_, ?_⟩⟩⟩⟩
  ·refine Kd.R_mono (Kd.R_step (Kd.R_tight rfl HR'.out) (fun k hk hlt => World.putObj_heap_other (fun e => ?_))) (fun _ _ => trivial)
   subst e
   exact HDV.out hk.symm
  ·exact HB'.out.trans ⟨rfl, rfl, rfl, by simp, fun k hk => World.putObj_heap_other (by omega)⟩
 case stop =>
  rintro D c pre W _ _ h _
  exact h.elim
end

end Go.Proofs.Ytglckkkjfcomlaa.QFixpointProofs
