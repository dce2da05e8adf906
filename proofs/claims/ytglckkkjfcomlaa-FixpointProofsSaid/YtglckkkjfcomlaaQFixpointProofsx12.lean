import Derived.Test.YtglckkkjfcomlaaQFixpointProofsx0
import Derived.Test.YtglckkkjfcomlaaQFixpointProofsx11
import Derived.Test.YtglckkkjfcomlaaHandChg
namespace Go.Proofs.Ytglckkkjfcomlaa.QFixpointProofs
open Go.RowKit Go.Proofs.YtglckkkjfcomlaaW.PrintWords Go.Proofs.YtglckkkjfcomlaaW.PrintLast Go.Proofs.YtglckkkjfcomlaaW.PrintMore Go.Proofs.Ytglckkkjfcomlaa.Hand
attribute [local go_sem] max2_int min2_int max_two min_two max_three min_three max_four min_four
set_option linter.unusedVariables false
set_option linter.unusedSimpArgs false
def vsP (l0 : List (List S58)) (l1 : List S182) (a2 : Int) (d : S182) (k : Nat) : Option Bool :=
  if d.f0 < 0 then some false else if d.f0 ≥ (l0.length : Int) then some false else if d.f1 < 0 then some false else if d.f1 ≥ ((rd_L3 l0 d.f0).length : Int) then some false else if d.f2 < 0 then some false else if d.f2 ≥ 20 then some false else
    if (Go.bits .and .i64 (shr .i64 (rd_T58 (rd_L3 l0 d.f0) d.f1).f0 d.f2) 1) = 1 then ((slices_ContainsFunc_172_at_179_69_3_182.f k (rd_T58 (rd_L3 l0 d.f0) d.f1).f1 l1 a2 d.f0 d.f1 d.f2).bind fun t => some (!t)) else some false
def fixpoint_validStep.f (k : Nat) (l0 : List (List S58)) (l1 : List S182) (a2 : Int) : Option Bool := if 0 ≤ a2 then (if a2 < (l1.length : Int) then vsP l0 l1 a2 (rd_T182 l1 a2) k else none) else none
theorem fixpoint_validStep.mono : ∀ a0 a1 a2 k, LeO (fixpoint_validStep.f k a0 a1 a2) (fixpoint_validStep.f (k + 1) a0 a1 a2) := by
  intro a0 a1 a2 k
  unfold fixpoint_validStep.f vsP
  refine LeO.ite (LeO.ite ?_ (LeO.refl _)) (LeO.refl _)
  refine LeO.ite (LeO.refl _) (LeO.ite (LeO.refl _) (LeO.ite (LeO.refl _) (LeO.ite (LeO.refl _) (LeO.ite (LeO.refl _) (LeO.ite (LeO.refl _) (LeO.ite ?_ (LeO.refl _)))))))
  exact LeO.bind (slices_ContainsFunc_172_at_179_69_3_182.mono _ _ _ _ _ _ _) (fun t => LeO.refl _)
set_option maxHeartbeats 8000000 in
set_option maxRecDepth 100000 in
theorem fixpoint_validStep.calls (k : Nat) (A0 : Option Addr) (c0 : Nat) (l0 : List (List S58)) (A1 : Option Addr) (cc1 : Nat) (l1 : List S182) (a2 : Int) (r : Bool) (w : World) (hr0 : Kd.C (Kd.slice 58 k58) w A0 l0.length l0) (hc0 : l0.length ≤ c0) (hr1 : Kd.C k182 w A1 l1.length l1) (hc1 : l1.length ≤ cc1) (h : fixpoint_validStep.f k l0 l1 a2 = some r) :
    Calls Try.prog 109 #[.slice A0 l0.length c0, .slice A1 l1.length cc1, .int .i64 a2] w fun e w' => e = .returned (.bool r) ∧ Below w.heap.size w w' := by
  unfold fixpoint_validStep.f at h
  by_cases h0 : 0 ≤ a2
  case neg => rw [if_neg h0] at h; cases h
  by_cases h1 : a2 < (l1.length : Int)
  case neg => rw [if_pos h0, if_neg h1] at h; cases h
  rw [if_pos h0, if_pos h1] at h
  obtain ⟨ad, rfl, x0, x1, x2⟩ := at_T182 hr1 a2 h0 h1
  obtain ⟨d, hd⟩ : ∃ d, rd_T182 l1 a2 = d := ⟨_, rfl⟩
  rw [hd] at h x0 x1 x2
  have HR0 := Aside0.mk hr0
  have HR1 := Aside0.mk hr1
  have H := Aside0.mk h
  have p0 := eq_true h0
  have p1 := eq_true h1
  clear hr0 hr1 h hd
  go_enter Try.func109, Try.ntmps109
  go_upto_region 1 with (fail)
  obtain ⟨W1, hW1⟩ : ∃ W1, (w.alloc (.cells #[.slice (some ad) l1.length cc1] 69)).alloc (.cells #[.int .i64 a2] 3) = W1 := ⟨_, rfl⟩
  have hb1 : Below w.heap.size w W1 := by rw [← hW1]; exact below_alloc (below_alloc (Below.refl _ _) _) _
  have h4 : W1.heap[w.heap.size]? = some (.cells #[.slice (some ad) l1.length cc1] 69 (0, 0)) := by rw [← hW1]; exact hb_alloc (hb_new w _)
  have h5 : W1.heap[w.heap.size + 1]? = some (.cells #[.int .i64 a2] 3 (0, 0)) := by
    rw [← hW1]
    have := hb_new (w.alloc (.cells #[.slice (some ad) l1.length cc1] 69)) (.cells #[.int .i64 a2] 3)
    rwa [World.size_alloc] at this
  have hz1 : W1.heap.size = w.heap.size + 2 := by rw [← hW1]; simp
  rw [hW1]
  clear hW1
  have y4 := cell_of_blk h4
  have y5 := cell_of_blk h5
  replace x0 := (hb1.cell (World.block_lt_of_cell? _ _ x0)).trans x0
  replace x1 := (hb1.cell (World.block_lt_of_cell? _ _ x1)).trans x1
  replace x2 := (hb1.cell (World.block_lt_of_cell? _ _ x2)).trans x2
  have HB1 := Aside0.mk hb1
  have H4 := Aside0.mk h4
  have H5 := Aside0.mk h5
  clear hb1 h4 h5
  go_upto_region 2 with (fail)
  obtain ⟨W2, hW2⟩ : ∃ W2, W1.alloc (.cells #[.int .i64 d.f0, .int .i64 d.f1, .int .i64 d.f2] 182) = W2 := ⟨_, rfl⟩
  have hb2 : Below W1.heap.size W1 W2 := by rw [← hW2]; exact below_alloc (Below.refl _ _) _
  have h7 : W2.heap[w.heap.size + 2]? = some (.cells #[.int .i64 d.f0, .int .i64 d.f1, .int .i64 d.f2] 182 (0, 0)) := by rw [← hW2, ← hz1]; exact hb_new _ _
  rw [hW2]
  try simp only [hz1]
  clear hW2
  have HB2 := Aside0.mk (HB1.out.trans (hb2.mono HB1.out.size))
  have G4 := Aside0.mk ((hb2.block _ (lt_of_blk H4.out)).trans H4.out)
  have G5 := Aside0.mk ((hb2.block _ (lt_of_blk H5.out)).trans H5.out)
  have G7 := Aside0.mk h7
  have z0 : W2.cell? ⟨w.heap.size + 2, 0, none⟩ = some (.int .i64 d.f0) := (cells_of_blk h7 0).trans rfl
  have z1 : W2.cell? ⟨w.heap.size + 2, 1, none⟩ = some (.int .i64 d.f1) := (cells_of_blk h7 1).trans rfl
  have z2 : W2.cell? ⟨w.heap.size + 2, 2, none⟩ = some (.int .i64 d.f2) := (cells_of_blk h7 2).trans rfl
  clear hb2 h7 x0 x1 x2 y4 y5 H4 H5 HB1
  have h := H.out
  unfold vsP at h
  have fin : ∀ (q : Nat), Below w.heap.size w (W2.drewN q) := fun q => pw_below_drewN HB2.out q
  by_cases e1 : d.f0 < 0
  · rw [if_pos e1] at h
    injection h with h
    subst h
    have b1 : decide (d.f0 < 0) = true := decide_eq_true e1
    go_quiet (fail)
    go_wp2
    go_ret
    exact ⟨rfl, fin _⟩
  rw [if_neg e1] at h
  have b1 : decide (d.f0 < 0) = false := decide_eq_false e1
  by_cases e2 : d.f0 ≥ (l0.length : Int)
  · rw [if_pos e2] at h
    injection h with h
    subst h
    have b2 : decide (d.f0 ≥ (l0.length : Int)) = true := decide_eq_true e2
    go_quiet (fail)
    go_wp2
    go_ret
    exact ⟨rfl, fin _⟩
  rw [if_neg e2] at h
  have b2 : decide (d.f0 ≥ (l0.length : Int)) = false := decide_eq_false e2
  by_cases e3 : d.f1 < 0
  · rw [if_pos e3] at h
    injection h with h
    subst h
    have b3 : decide (d.f1 < 0) = true := decide_eq_true e3
    go_quiet (fail)
    go_wp2
    go_ret
    exact ⟨rfl, fin _⟩
  rw [if_neg e3] at h
  have b3 : decide (d.f1 < 0) = false := decide_eq_false e3
  have p2 := eq_true (show 0 ≤ d.f0 by omega)
  have p3 := eq_true (show d.f0 < (l0.length : Int) by omega)
  obtain ⟨adL, AL, cL, rfl, xL, hcL, hCL⟩ := at_L3 HR0.out d.f0 (of_eq_true p2) (of_eq_true p3)
  have zL := (HB2.out.cell (World.block_lt_of_cell? _ _ xL)).trans xL
  clear xL
  by_cases e4 : d.f1 ≥ ((rd_L3 l0 d.f0).length : Int)
  · rw [if_pos e4] at h
    injection h with h
    subst h
    have b4 : decide (d.f1 ≥ ((rd_L3 l0 d.f0).length : Int)) = true := decide_eq_true e4
    go_quiet (fail)
    go_wp2
    go_ret
    exact ⟨rfl, fin _⟩
  rw [if_neg e4] at h
  have b4 : decide (d.f1 ≥ ((rd_L3 l0 d.f0).length : Int)) = false := decide_eq_false e4
  by_cases e5 : d.f2 < 0
  · rw [if_pos e5] at h
    injection h with h
    subst h
    have b5 : decide (d.f2 < 0) = true := decide_eq_true e5
    go_quiet (fail)
    go_wp2
    go_ret
    exact ⟨rfl, fin _⟩
  rw [if_neg e5] at h
  have b5 : decide (d.f2 < 0) = false := decide_eq_false e5
  by_cases e6 : d.f2 ≥ 20
  · rw [if_pos e6] at h
    injection h with h
    subst h
    have b6 : decide (d.f2 ≥ 20) = true := decide_eq_true e6
    go_quiet (fail)
    go_wp2
    go_ret
    exact ⟨rfl, fin _⟩
  rw [if_neg e6] at h
  have b6 : decide (d.f2 ≥ 20) = false := decide_eq_false e6
  have p4 := eq_true (show 0 ≤ d.f1 by omega)
  have p5 := eq_true (show d.f1 < ((rd_L3 l0 d.f0).length : Int) by omega)
  have p6 := eq_true (show 0 ≤ d.f2 by omega)
  obtain ⟨adT, AT, cT, rfl, xT0, xT1, hcT, hCT⟩ := at_T58 hCL d.f1 (of_eq_true p4) (of_eq_true p5)
  have HCT := Aside0.mk hCT
  have HH := Aside0.mk h
  have hg2 : d.f2 ≤ 20 := by omega
  have zT0 := (HB2.out.cell (World.block_lt_of_cell? _ _ xT0)).trans xT0
  have zT1 := (HB2.out.cell (World.block_lt_of_cell? _ _ xT1)).trans xT1
  clear hCT h hCL xT0 xT1 e1 e2 e3 e4 e5 e6 H
  go_quiet (fail)
  go_upto_region 5 with (fail)
  have hmx : Try.prog.follows .mixedOrders = true := by kernel_rfl
  obtain ⟨W3, hW3⟩ : ∃ W3, W2.drewN nq = W3 := ⟨_, rfl⟩
  have HB3 := Aside0.mk (show Below w.heap.size w W3 by rw [← hW3]; exact fin nq)
  have F4 := Aside0.mk (show W3.heap[w.heap.size]? = some (.cells #[.slice (some ad) l1.length cc1] 69 (0, 0)) by rw [← hW3]; exact blk_drewN G4.out nq)
  have F5 := Aside0.mk (show W3.heap[w.heap.size + 1]? = some (.cells #[.int .i64 a2] 3 (0, 0)) by rw [← hW3]; exact blk_drewN G5.out nq)
  have F7 := Aside0.mk (show W3.heap[w.heap.size + 2]? = some (.cells #[.int .i64 d.f0, .int .i64 d.f1, .int .i64 d.f2] 182 (0, 0)) by rw [← hW3]; exact blk_drewN G7.out nq)
  have HZ := Aside0.mk (show (fun w' => w'.cell? ⟨w.heap.size + 2, 0, none⟩ = some (.int .i64 d.f0) ∧ w'.cell? ⟨w.heap.size + 2, 1, none⟩ = some (.int .i64 d.f1) ∧ w'.cell? (adL.add d.f0.toNat) = some (.slice (some adT) (rd_L3 l0 d.f0).length cL) ∧ w'.cell? (adT.add (d.f1.toNat * 2)) = some (.int .i64 (rd_T58 (rd_L3 l0 d.f0) d.f1).f0) ∧ w'.cell? ⟨(adT.add (d.f1.toNat * 2)).block, (adT.add (d.f1.toNat * 2)).off + 1, none⟩ = some (.slice AT (rd_T58 (rd_L3 l0 d.f0) d.f1).f1.length cT)) W3 by
    rw [← hW3]
    exact ⟨(cells_of_blk (blk_drewN G7.out nq) 0).trans rfl, (cells_of_blk (blk_drewN G7.out nq) 1).trans rfl, ((pw_below_drewN (Below.refl W2.heap.size W2) nq).cell (World.block_lt_of_cell? _ _ zL)).trans zL, ((pw_below_drewN (Below.refl W2.heap.size W2) nq).cell (World.block_lt_of_cell? _ _ zT0)).trans zT0, ((pw_below_drewN (Below.refl W2.heap.size W2) nq).cell (World.block_lt_of_cell? _ _ zT1)).trans zT1⟩)
  rw [hW3]
  clear hW3 z0 z1 z2 zL zT0 zT1 G4 G5 G7 HB2 fin b1 b2 b3 b4 b5 b6
  refine start_ (n := 11) (S := fun w' => w'.cell? ⟨w.heap.size + 2, 0, none⟩ = some (.int .i64 d.f0) ∧ w'.cell? ⟨w.heap.size + 2, 1, none⟩ = some (.int .i64 d.f1) ∧ w'.cell? (adL.add d.f0.toNat) = some (.slice (some adT) (rd_L3 l0 d.f0).length cL) ∧ w'.cell? (adT.add (d.f1.toNat * 2)) = some (.int .i64 (rd_T58 (rd_L3 l0 d.f0) d.f1).f0) ∧ w'.cell? ⟨(adT.add (d.f1.toNat * 2)).block, (adT.add (d.f1.toNat * 2)).off + 1, none⟩ = some (.slice AT (rd_T58 (rd_L3 l0 d.f0) d.f1).f1.length cT)) (ds := [10]) #[false, false, false, false, false, false, false, false, false, false, false] (by kernel_rfl) rfl rfl (HZ.out) (fun hHeld => ?_)
  refine pure_ (i := 0) (N := some 51) (v := ?_) (a' := ?_) #[true, false, false, false, false, false, false, false, false, false, false] rfl rfl (by kernel_rfl) (fun _ _ _ h => h) (Or.inl ⟨by rfl, ?_⟩) ?_ ?_
  rotate_left
  · intro w'
    go_simp
    with_reducible rfl
  rotate_left
  · simp only [Act.put, List.setIfInBounds_toArray, List.set_cons_zero, List.set_cons_succ, i64_w, i32_w]
    rfl
  refine pure_ (i := 1) (N := some 52) (v := ?_) (a' := ?_) #[true, true, false, false, false, false, false, false, false, false, false] rfl rfl (by kernel_rfl) (fun _ _ _ h => h) (Or.inl ⟨by rfl, ?_⟩) ?_ ?_
  rotate_left
  · intro w'
    go_simp
    with_reducible rfl
  rotate_left
  · simp only [Act.put, List.setIfInBounds_toArray, List.set_cons_zero, List.set_cons_succ, i64_w, i32_w]
    rfl
  refine take_ (i := 2) (N := some 53) (v := ?_) (a' := ?_) #[true, true, true, false, false, false, false, false, false, false, false] rfl rfl (by kernel_rfl) (fun _ _ _ h => h) (Or.inl ⟨by rfl, ?_⟩) hHeld ?_ ?_
  rotate_left
  · rintro w' ⟨s0_, s1_, s2_, s3_, s4_⟩
    go_simp
    with_reducible rfl
  rotate_left
  · simp only [Act.put, List.setIfInBounds_toArray, List.set_cons_zero, List.set_cons_succ, i64_w, i32_w]
    rfl
  refine pure_ (i := 3) (N := some 54) (v := ?_) (a' := ?_) #[true, true, true, true, false, false, false, false, false, false, false] rfl rfl (by kernel_rfl) (fun _ _ _ h => h) (Or.inl ⟨by rfl, ?_⟩) ?_ ?_
  rotate_left
  · intro w'
    go_simp
    with_reducible rfl
  rotate_left
  · simp only [Act.put, List.setIfInBounds_toArray, List.set_cons_zero, List.set_cons_succ, i64_w, i32_w]
    rfl
  refine take_ (i := 4) (N := some 55) (v := ?_) (a' := ?_) #[true, true, true, true, true, false, false, false, false, false, false] rfl rfl (by kernel_rfl) (fun _ _ _ h => h) (Or.inl ⟨by rfl, ?_⟩) hHeld ?_ ?_
  rotate_left
  · rintro w' ⟨s0_, s1_, s2_, s3_, s4_⟩
    go_simp
    with_reducible rfl
  rotate_left
  · simp only [Act.put, List.setIfInBounds_toArray, List.set_cons_zero, List.set_cons_succ, i64_w, i32_w]
    rfl
  refine pure_ (i := 5) (N := some 56) (v := ?_) (a' := ?_) #[true, true, true, true, true, true, false, false, false, false, false] rfl rfl (by kernel_rfl) (fun _ _ _ h => h) (Or.inl ⟨by rfl, ?_⟩) ?_ ?_
  rotate_left
  · intro w'
    go_simp
    with_reducible rfl
  rotate_left
  · simp only [Act.put, List.setIfInBounds_toArray, List.set_cons_zero, List.set_cons_succ, i64_w, i32_w]
    rfl
  refine take_ (i := 6) (N := some 57) (v := ?_) (a' := ?_) #[true, true, true, true, true, true, true, false, false, false, false] rfl rfl (by kernel_rfl) (fun _ _ _ h => h) (Or.inl ⟨by rfl, ?_⟩) hHeld ?_ ?_
  rotate_left
  · rintro w' ⟨s0_, s1_, s2_, s3_, s4_⟩
    go_simp
    with_reducible rfl
  rotate_left
  · simp only [Act.put, List.setIfInBounds_toArray, List.set_cons_zero, List.set_cons_succ, i64_w, i32_w]
    rfl
  refine pure_ (i := 7) (N := some 58) (v := ?_) (a' := ?_) #[true, true, true, true, true, true, true, true, false, false, false] rfl rfl (by kernel_rfl) (fun _ _ _ h => h) (Or.inl ⟨by rfl, ?_⟩) ?_ ?_
  rotate_left
  · intro w'
    go_simp
    with_reducible rfl
  rotate_left
  · simp only [Act.put, List.setIfInBounds_toArray, List.set_cons_zero, List.set_cons_succ, i64_w, i32_w]
    rfl
  refine take_ (i := 8) (N := some 59) (v := ?_) (a' := ?_) #[true, true, true, true, true, true, true, true, true, false, false] rfl rfl (by kernel_rfl) (fun _ _ _ h => h) (Or.inl ⟨by rfl, ?_⟩) hHeld ?_ ?_
  rotate_left
  · rintro w' ⟨s0_, s1_, s2_, s3_, s4_⟩
    go_simp
    with_reducible rfl
  rotate_left
  · simp only [Act.put, List.setIfInBounds_toArray, List.set_cons_zero, List.set_cons_succ, i64_w, i32_w]
    rfl
  refine one_ (i := 9) (N := some 9) #[true, true, true, true, true, true, true, true, true, true, false] rfl rfl (by kernel_rfl) (by decide) (fun K hK => ?_)
  refine box_step ?hg (N := 9) ?hd (cs := #[.int .i64 0, .slice none 0 0]) (t := 58) ?hr ?_; (case hd => rfl); (case hg => rfl); (case hr => first | (go_simp; done) | (go_simp; rfl))
  intro gb hg W4 hbox hb
  have hSS := And.intro ((hb.cell (World.block_lt_of_cell? _ _ hHeld.1)).trans hHeld.1) (And.intro ((hb.cell (World.block_lt_of_cell? _ _ hHeld.2.1)).trans hHeld.2.1) (And.intro ((hb.cell (World.block_lt_of_cell? _ _ hHeld.2.2.1)).trans hHeld.2.2.1) (And.intro ((hb.cell (World.block_lt_of_cell? _ _ hHeld.2.2.2.1)).trans hHeld.2.2.2.1) ((hb.cell (World.block_lt_of_cell? _ _ hHeld.2.2.2.2)).trans hHeld.2.2.2.2))))
  clear hHeld
  have hgz : W3.heap.size = gb := hg.symm
  have HB4 := Aside0.mk ((below_drew1 HB3.out).trans (hb.mono (show w.heap.size ≤ W3.heap.size from HB3.out.size)))
  have E4 := Aside0.mk ((hb.block _ (lt_of_blk F4.out)).trans F4.out)
  have E5 := Aside0.mk ((hb.block _ (lt_of_blk F5.out)).trans F5.out)
  have E7 := Aside0.mk ((hb.block _ (lt_of_blk F7.out)).trans F7.out)
  have hgb : w.heap.size + 2 < gb := by have := lt_of_blk F7.out; omega
  clear hb hg
  refine hK.out _ _ (hSS) (fun hHeld => ?_)
  clear hK K
  refine norm_ (a' := ?_) ?_ ?_
  rotate_left
  · show Act.put _ (some 9) _ = _
    simp only [Act.put, List.setIfInBounds_toArray, List.set_cons_zero, List.set_cons_succ, i64_w, i32_w]
    rfl
  clear hHeld
  refine last_ (i := 10) (N := none) #[true, true, true, true, true, true, true, true, true, true, true] rfl rfl (by kernel_rfl) (by decide) (fun K hK => ?_)
  have s0 : W4.cell? ⟨gb, 0, none⟩ = some (.int .i64 0) := (cells_of_blk hbox 0).trans rfl
  have s1 : W4.cell? ⟨gb, 1, none⟩ = some (.slice none 0 0) := (cells_of_blk hbox 1).trans rfl
  have f0 := blk_frozen hbox 0
  have f1 := blk_frozen hbox 1
  refine skip_ (w1 := ?_) (by rfl) rfl ?_ ?_
  rotate_left
  · go_simp
    rfl
  refine hK.out _ _ (done_ (by kernel_rfl) ?_)
  clear hK K s0 s1 f0 f1
  obtain ⟨W5, hW5⟩ : ∃ W5, (W4.setCell ⟨gb, 0, none⟩ (.int .i64 (rd_T58 (rd_L3 l0 d.f0) d.f1).f0)).setCell ⟨gb, 1, none⟩ (.slice AT (rd_T58 (rd_L3 l0 d.f0) d.f1).f1.length cT) = W5 := ⟨_, rfl⟩
  have HB5 := Aside0.mk (show Below w.heap.size w W5 by rw [← hW5]; exact (HB4.out.setCell (p := ⟨gb, 0, none⟩) (by show w.heap.size ≤ gb; omega) _).setCell (p := ⟨gb, 1, none⟩) (by show w.heap.size ≤ gb; omega) _)
  have D4 := Aside0.mk (show W5.heap[w.heap.size]? = some (.cells #[.slice (some ad) l1.length cc1] 69 (0, 0)) by rw [← hW5]; exact (hb_far (hb_far E4.out (by show w.heap.size ≠ gb; omega) _) (by show w.heap.size ≠ gb; omega) _))
  have D5 := Aside0.mk (show W5.heap[w.heap.size + 1]? = some (.cells #[.int .i64 a2] 3 (0, 0)) by rw [← hW5]; exact (hb_far (hb_far E5.out (by show w.heap.size + 1 ≠ gb; omega) _) (by show w.heap.size + 1 ≠ gb; omega) _))
  have D7 := Aside0.mk (show W5.heap[w.heap.size + 2]? = some (.cells #[.int .i64 d.f0, .int .i64 d.f1, .int .i64 d.f2] 182 (0, 0)) by rw [← hW5]; exact (hb_far (hb_far E7.out (by show w.heap.size + 2 ≠ gb; omega) _) (by show w.heap.size + 2 ≠ gb; omega) _))
  have hb5 : W5.heap[gb]? = some (.cells #[.int .i64 (rd_T58 (rd_L3 l0 d.f0) d.f1).f0, .slice AT (rd_T58 (rd_L3 l0 d.f0) d.f1).f1.length cT] 58 (0, 0)) := by rw [← hW5]; exact hb_set (hb_set hbox 0 _) 1 _
  have r0 : W5.cell? ⟨gb, 0, none⟩ = some (.int .i64 (rd_T58 (rd_L3 l0 d.f0) d.f1).f0) := (cells_of_blk hb5 0).trans rfl
  have r1 : W5.cell? ⟨gb, 1, none⟩ = some (.slice AT (rd_T58 (rd_L3 l0 d.f0) d.f1).f1.length cT) := (cells_of_blk hb5 1).trans rfl
  have r2 : W5.cell? ⟨w.heap.size + 2, 2, none⟩ = some (.int .i64 d.f2) := (cells_of_blk D7.out 2).trans rfl
  rw [hW5]
  clear hW5 hbox hb5 E4 E5 E7 HB4 HB3 F4 F5 F7 HZ hSS
  obtain ⟨x, hx⟩ : ∃ x, shr .i64 (rd_T58 (rd_L3 l0 d.f0) d.f1).f0 d.f2 = x := ⟨_, rfl⟩
  have hx2 := shr_small hx (show d.f2 ≤ (64 : Int) by omega)
  have hx3 : (rd_T58 (rd_L3 l0 d.f0) d.f1).f0 / 2 ^ min d.f2.toNat 64 = x := by rw [show min d.f2.toNat 64 = d.f2.toNat by omega]; exact hx2
  have h := HH.out
  rw [hx] at h
  by_cases e7 : (Go.bits .and .i64 x 1) = 1
  · rw [if_pos e7] at h
    obtain ⟨tt, htt, h⟩ := Option.bind_eq_some_iff.1 h
    injection h with h
    subst h
    have b7 : ((Go.bits .and .i64 x 1) == 1) = true := beq_iff_eq.2 e7
    have HC := Aside0.mk (slices_ContainsFunc_172_at_179_69_3_182.calls k AT cT _ w.heap.size (w.heap.size + 1) (w.heap.size + 2) (some ad) cc1 l1 a2 d.f0 d.f1 d.f2 tt W5 (Kd.C_below HCT.out HB5.out) hcT (Kd.C_below HR1.out HB5.out) hc1 D4.out D5.out D7.out htt)
    clear htt HH
    go_wp2_with (go_at_call 172; refine HC.out.mono ?_; rintro e' w' ⟨rfl, hb'⟩)
    go_ret
    exact ⟨rfl, HB5.out.trans (hb'.mono HB5.out.size)⟩
  · rw [if_neg e7] at h
    injection h with h
    subst h
    have b7 : ((Go.bits .and .i64 x 1) == 1) = false := beq_eq_false_iff_ne.2 e7
    clear HH
    go_wp2
    go_ret
    exact ⟨rfl, HB5.out⟩
end Go.Proofs.Ytglckkkjfcomlaa.QFixpointProofs
