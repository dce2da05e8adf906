-- Written by gen.py (this repo's wip/), which runs the kit's print.py with more arms. Lean checks it.
import Derived.Test.YtglckkkjfcomlaaQQuerylangCompilex0
import Derived.Test.YtglckkkjfcomlaaQQuerylangCompilex2
import Derived.Test.YtglckkkjfcomlaaQQuerylangCompilex3
import Derived.Test.YtglckkkjfcomlaaQQuerylangCompilex5
import Derived.Test.YtglckkkjfcomlaaQQuerylangCompilex6
import Derived.Test.YtglckkkjfcomlaaQQuerylangCompilex7
import Derived.Test.YtglckkkjfcomlaaQQuerylangCompilex8
namespace Go.Proofs.Ytglckkkjfcomlaa.QQuerylangCompile
open Go.RowKit Go.Proofs.YtglckkkjfcomlaaW.PrintWords Go.Proofs.YtglckkkjfcomlaaW.PrintLast Go.Proofs.YtglckkkjfcomlaaW.PrintMore
attribute [local go_sem] max2_int min2_int max_two min_two max_three min_three max_four min_four   -- for this text's walks alone
set_option linter.unusedVariables false
set_option linter.unusedSimpArgs false

section
open Go.Proofs.Ytglckkkjfcomlaa.Hand
structure S31 where
  f0 : List Int
  f1 : ByteArray
def z31 : S31 := ⟨([] : List Int), (⟨#[]⟩ : ByteArray)⟩
def k31 : Kd S31 := Kd.iso (Kd.pair (Kd.slice 3 (Kd.int .i64)) Kd.string) (fun x : S31 => (x.f0, x.f1))
theorem k31_open {w : World} {x : S31} {cs : List Value} (h : k31.K w x cs) : ∃ A0 c0, cs = [.slice A0 x.f0.length c0, .string x.f1] ∧ x.f0.length ≤ c0 ∧ (Kd.int .i64).C w A0 x.f0.length x.f0 := by
  obtain ⟨_, _, rfl, ⟨A0, c0, rfl, l0, g0⟩, rfl⟩ := h
  exact ⟨A0, c0, rfl, l0, g0⟩
def rd_T31 (xs : List S31) (i : Int) : S31 := xs.getD i.toNat z31
theorem at_T31 {w : World} {A : Option Addr} {n : Nat} {xs : List S31} (h : Kd.C k31 w A n xs) (i : Int) (h0 : 0 ≤ i) (h1 : i < n) : ∃ ad A0 c0, A = some ad ∧ w.cell? (ad.add (i.toNat * 2)) = some (.slice A0 (rd_T31 xs i).f0.length c0) ∧ w.cell? ⟨(ad.add (i.toNat * 2)).block, (ad.add (i.toNat * 2)).off + 1, none⟩ = some (.string (rd_T31 xs i).f1) ∧ (rd_T31 xs i).f0.length ≤ c0 ∧ (Kd.int .i64).C w A0 (rd_T31 xs i).f0.length (rd_T31 xs i).f0 := by
  obtain ⟨ad, c, e, _, hK, hc0⟩ := Kd.C_get h z31 i h0 h1
  have hc : ∀ j u, c[j]? = some u → w.cell? (ad.add (i.toNat * 2 + j)) = some u := hc0
  obtain ⟨A0, c0, rfl, l0, g0⟩ := k31_open hK
  exact ⟨ad, A0, c0, e, hc 0 _ rfl, by rw [← add_field _ _ 1 (by omega)]; exact hc 1 _ rfl, l0, g0⟩
theorem info_26 : (Try.prog.info? 26).map (fun i => (i.zero, i.size, i.bytes)) = some (some (.agg #[.int .i64 0, .int .i64 0, .int .i64 0]), 3, 24) := by kernel_rfl
theorem k26_E : k26.E = [] := rfl
/-- The law's lookup. -/
def lkP (vs : List S31) (k1 k2 : Int) : Option S31 := if vs.length = 0 then some z31 else (glossatorref3_Mod.f (wrap64 (wrap64 (k1 * 7) + k2)) (vs.length : Int)).bind fun i => if 0 ≤ i then (if i < (vs.length : Int) then some (rd_T31 vs i) else none) else none
section
variable {P : Program} {ops : Array Oper} {Q : Exit → Act → World → Prop}
/-- A call of a function that is a value, in a region that keeps its order. -/
theorem callL_ {rest : List Oper} {oi : Oper} {a : Act} {w : World} (N : Option Tmp) (hd : oi.dst = N) (hg : oi.guard = none) (f : FuncId) (args : Array Value) (hrun : (execOp a.eval oi).run P w = .ok (.enter f args) w)
    (h : Calls P f args w fun e w' => ∃ v, e = .returned v ∧ wpList P ops Q rest (a.put N v) w') : wpList P ops Q (oi :: rest) a w := by
  refine wpList_plain hg fun K hK => ?_
  unfold Oper.wp
  rw [hrun, Oper.upon_enter]
  refine h.mono fun e w'' hh => ?_
  obtain ⟨v, rfl, hk⟩ := hh
  subst hd
  exact hK _ _ hk
end
/-- Behind the boxes of a closure that takes a key and gives a value. -/
theorem key_box (w : World) (k1 k2 k3 : Int) : ∃ W1, (w.alloc (.cells #[.int .i64 k1, .int .i64 k2, .int .i64 k3] 26)).alloc (.cells #[.slice none 0 0, .string (⟨#[]⟩ : ByteArray)] 31) = W1 ∧ Below w.heap.size w W1 ∧ W1.heap[w.heap.size]? = some (.cells #[.int .i64 k1, .int .i64 k2, .int .i64 k3] 26 (0, 0)) ∧
    W1.heap[w.heap.size + 1]? = some (.cells #[.slice none 0 0, .string (⟨#[]⟩ : ByteArray)] 31 (0, 0)) := by
  refine ⟨_, rfl, below_alloc (below_alloc (Below.refl _ _) _) _, hb_alloc (hb_new w _), ?_⟩
  have := hb_new (w.alloc (.cells #[.int .i64 k1, .int .i64 k2, .int .i64 k3] 26)) (.cells #[.slice none 0 0, .string (⟨#[]⟩ : ByteArray)] 31)
  rwa [World.size_alloc] at this
set_option maxRecDepth 100000 in
set_option maxHeartbeats 4000000 in
theorem lk_calls (vb : Nat) (A : Option Addr) (c : Nat) (vs : List S31) (k1 k2 k3 : Int) (x : S31) (w0 w : World) (hvb : w.heap[vb]? = some (.cells #[.slice A vs.length c] 27 (0, 0))) (hv : Kd.C k31 w0 A vs.length vs) (hb0 : Below w0.heap.size w0 w) (h : lkP vs k1 k2 = some x) :
    Calls Try.prog 15 #[.agg #[.int .i64 k1, .int .i64 k2, .int .i64 k3], .pointer (some ⟨vb, 0, none⟩)] w fun e w' => ∃ A0 c0, e = .returned (.agg #[.slice A0 x.f0.length c0, .string x.f1]) ∧ x.f0.length ≤ c0 ∧ Kd.C (Kd.int .i64) w0 A0 x.f0.length x.f0 ∧ Below w.heap.size w w' := by
  unfold lkP at h
  have HVB := Aside0.mk hvb
  have HV := Aside0.mk hv
  have HB0 := Aside0.mk hb0
  clear hvb hv hb0
  go_enter Try.func15, Try.ntmps15
  go_upto_region 1 with (fail)
  obtain ⟨W1, hW1, hb1, hk1, hr1⟩ := key_box w k1 k2 k3
  rw [hW1]
  clear hW1
  have y0 := cell_of_blk ((hb1.block _ (lt_of_blk HVB.out)).trans HVB.out)
  have x0 : W1.cell? ⟨w.heap.size, 0, none⟩ = some (.int .i64 k1) := (cells_of_blk hk1 0).trans rfl
  have x1 : W1.cell? ⟨w.heap.size, 1, none⟩ = some (.int .i64 k2) := (cells_of_blk hk1 1).trans rfl
  have r0 : W1.cell? ⟨w.heap.size + 1, 0, none⟩ = some (.slice none 0 0) := (cells_of_blk hr1 0).trans rfl
  have r1 : W1.cell? ⟨w.heap.size + 1, 1, none⟩ = some (.string (⟨#[]⟩ : ByteArray)) := (cells_of_blk hr1 1).trans rfl
  have f0 := free_of_blk hr1 0
  have f1 := free_of_blk hr1 1
  have HB1 := Aside0.mk hb1
  have HR1 := Aside0.mk hr1
  clear hb1 hk1 hr1
  by_cases c0 : vs.length = 0
  · rw [if_pos c0] at h
    injection h with h
    subst h
    have b0 : ((vs.length : Int) == 0) = true := by simp [c0]
    clear c0
    go_wp2
    try simp only [Exit.inBlock, Exit.then]
    refine bodyPost_ret (results_cell_row (d := _) rfl _ _ (w.heap.size + 1) 31 #[.slice none 0 0, .string (⟨#[]⟩ : ByteArray)] (0, 0) rfl (hb_set (hb_set HR1.out 0 _) 1 _) Try.underlying31 rfl (by kernel_rfl)) rfl ?_
    exact ⟨none, 0, rfl, Nat.le_refl _, Kd.C_nil _ _, (HB1.out.setCell (by show w.heap.size ≤ w.heap.size + 1; omega) _).setCell (by show w.heap.size ≤ w.heap.size + 1; omega) _⟩
  · rw [if_neg c0] at h
    obtain ⟨i, hi, h⟩ := Option.bind_eq_some_iff.1 h
    by_cases c1 : 0 ≤ i
    case neg => rw [if_neg c1] at h; cases h
    by_cases c2 : i < (vs.length : Int)
    case neg => rw [if_pos c1, if_neg c2] at h; cases h
    rw [if_pos c1, if_pos c2] at h
    injection h with h
    have b0 : ((vs.length : Int) == 0) = false := beq_eq_false_iff_ne.2 (by omega)
    obtain ⟨ad, A0, ca, rfl, z0, z1, l0, g0⟩ := at_T31 HV.out i c1 c2
    have hbb := HB0.out.trans (HB1.out.mono HB0.out.size)
    replace z0 := (hbb.cell (World.block_lt_of_cell? _ _ z0)).trans z0
    replace z1 := (hbb.cell (World.block_lt_of_cell? _ _ z1)).trans z1
    rw [h] at z0 z1 l0 g0
    have G0 := Aside0.mk g0
    have L0 := Aside0.mk l0
    have p1 := eq_true c1
    have p2 := eq_true c2
    have HI := Aside0.mk hi
    clear g0 l0 h c0 c1 c2 hi hbb
    go_upto_region 3 with (fail)
    have hks : ∀ W2, Below W1.heap.size W1 W2 → (W2.cell? ⟨vb, 0, none⟩ = some (.slice (some ad) vs.length c) ∧ W2.cell? ⟨w.heap.size, 0, none⟩ = some (.int .i64 k1) ∧ W2.cell? ⟨w.heap.size, 1, none⟩ = some (.int .i64 k2) ∧ W2.cell? (ad.add (i.toNat * 2)) = some (.slice A0 x.f0.length ca) ∧ W2.cell? ⟨(ad.add (i.toNat * 2)).block, (ad.add (i.toNat * 2)).off + 1, none⟩ = some (.string x.f1)) :=
      fun W2 h2 => ⟨(h2.cell (World.block_lt_of_cell? _ _ y0)).trans y0, (h2.cell (World.block_lt_of_cell? _ _ x0)).trans x0, (h2.cell (World.block_lt_of_cell? _ _ x1)).trans x1, (h2.cell (World.block_lt_of_cell? _ _ z0)).trans z0, (h2.cell (World.block_lt_of_cell? _ _ z1)).trans z1⟩
    have HKS := Aside0.mk hks
    clear hks y0 x0 x1 z0 z1 r0 r1 f0 f1
    refine start_ (n := 13) (S := fun w' => w'.cell? ⟨vb, 0, none⟩ = some (.slice (some ad) vs.length c) ∧ w'.cell? ⟨w.heap.size, 0, none⟩ = some (.int .i64 k1) ∧ w'.cell? ⟨w.heap.size, 1, none⟩ = some (.int .i64 k2) ∧ w'.cell? (ad.add (i.toNat * 2)) = some (.slice A0 x.f0.length ca) ∧ w'.cell? ⟨(ad.add (i.toNat * 2)).block, (ad.add (i.toNat * 2)).off + 1, none⟩ = some (.string x.f1)) (ds := [12]) #[false, false, false, false, false, false, false, false, false, false, false, false, false] (by kernel_rfl) rfl rfl (HKS.out _ (below_drew1 (Below.refl _ _))) (fun hHeld => ?_)
    refine take_ (i := 0) (N := some 8) (v := ?_) (a' := ?_) #[true, false, false, false, false, false, false, false, false, false, false, false, false] rfl rfl (by kernel_rfl) (fun _ _ _ h => h) (Or.inl ⟨by rfl, ?_⟩) hHeld ?_ ?_
    rotate_left
    · rintro w' ⟨s0_, s1_, s2_, s3_, s4_⟩
      go_simp
      with_reducible rfl
    rotate_left
    · simp only [Act.put, List.setIfInBounds_toArray, List.set_cons_zero, List.set_cons_succ, i64_w, i32_w]
      rfl
    refine pure_ (i := 1) (N := some 9) (v := ?_) (a' := ?_) #[true, true, false, false, false, false, false, false, false, false, false, false, false] rfl rfl (by kernel_rfl) (fun _ _ _ h => h) (Or.inl ⟨by rfl, ?_⟩) ?_ ?_
    rotate_left
    · intro w'
      go_simp
      with_reducible rfl
    rotate_left
    · simp only [Act.put, List.setIfInBounds_toArray, List.set_cons_zero, List.set_cons_succ, i64_w, i32_w]
      rfl
    refine take_ (i := 2) (N := some 10) (v := ?_) (a' := ?_) #[true, true, true, false, false, false, false, false, false, false, false, false, false] rfl rfl (by kernel_rfl) (fun _ _ _ h => h) (Or.inl ⟨by rfl, ?_⟩) hHeld ?_ ?_
    rotate_left
    · rintro w' ⟨s0_, s1_, s2_, s3_, s4_⟩
      go_simp
      with_reducible rfl
    rotate_left
    · simp only [Act.put, List.setIfInBounds_toArray, List.set_cons_zero, List.set_cons_succ, i64_w, i32_w]
      rfl
    refine pure_ (i := 3) (N := some 11) (v := ?_) (a' := ?_) #[true, true, true, true, false, false, false, false, false, false, false, false, false] rfl rfl (by kernel_rfl) (fun _ _ _ h => h) (Or.inl ⟨by rfl, ?_⟩) ?_ ?_
    rotate_left
    · intro w'
      go_simp
      with_reducible rfl
    rotate_left
    · simp only [Act.put, List.setIfInBounds_toArray, List.set_cons_zero, List.set_cons_succ, i64_w, i32_w]
      rfl
    refine pure_ (i := 4) (N := some 12) (v := ?_) (a' := ?_) #[true, true, true, true, true, false, false, false, false, false, false, false, false] rfl rfl (by kernel_rfl) (fun _ _ _ h => h) (Or.inl ⟨by rfl, ?_⟩) ?_ ?_
    rotate_left
    · intro w'
      go_simp
      with_reducible rfl
    rotate_left
    · simp only [Act.put, List.setIfInBounds_toArray, List.set_cons_zero, List.set_cons_succ, i64_w, i32_w]
      rfl
    refine take_ (i := 5) (N := some 13) (v := ?_) (a' := ?_) #[true, true, true, true, true, true, false, false, false, false, false, false, false] rfl rfl (by kernel_rfl) (fun _ _ _ h => h) (Or.inl ⟨by rfl, ?_⟩) hHeld ?_ ?_
    rotate_left
    · rintro w' ⟨s0_, s1_, s2_, s3_, s4_⟩
      go_simp
      with_reducible rfl
    rotate_left
    · simp only [Act.put, List.setIfInBounds_toArray, List.set_cons_zero, List.set_cons_succ, i64_w, i32_w]
      rfl
    refine pure_ (i := 6) (N := some 14) (v := ?_) (a' := ?_) #[true, true, true, true, true, true, true, false, false, false, false, false, false] rfl rfl (by kernel_rfl) (fun _ _ _ h => h) (Or.inl ⟨by rfl, ?_⟩) ?_ ?_
    rotate_left
    · intro w'
      go_simp
      with_reducible rfl
    rotate_left
    · simp only [Act.put, List.setIfInBounds_toArray, List.set_cons_zero, List.set_cons_succ, i64_w, i32_w]
      rfl
    refine take_ (i := 7) (N := some 15) (v := ?_) (a' := ?_) #[true, true, true, true, true, true, true, true, false, false, false, false, false] rfl rfl (by kernel_rfl) (fun _ _ _ h => h) (Or.inl ⟨by rfl, ?_⟩) hHeld ?_ ?_
    rotate_left
    · rintro w' ⟨s0_, s1_, s2_, s3_, s4_⟩
      go_simp
      with_reducible rfl
    rotate_left
    · simp only [Act.put, List.setIfInBounds_toArray, List.set_cons_zero, List.set_cons_succ, i64_w, i32_w]
      rfl
    refine pure_ (i := 8) (N := some 16) (v := ?_) (a' := ?_) #[true, true, true, true, true, true, true, true, true, false, false, false, false] rfl rfl (by kernel_rfl) (fun _ _ _ h => h) (Or.inl ⟨by rfl, ?_⟩) ?_ ?_
    rotate_left
    · intro w'
      go_simp
      with_reducible rfl
    rotate_left
    · simp only [Act.put, List.setIfInBounds_toArray, List.set_cons_zero, List.set_cons_succ, i64_w, i32_w]
      rfl
    refine one_ (i := 9) (N := some 17) #[true, true, true, true, true, true, true, true, true, true, false, false, false] rfl rfl (by kernel_rfl) (by decide) (fun K hK => ?_)
    refine goes_ Try.func16 (by kernel_rfl) rfl #[.int .i64 (wrap64 (wrap64 (k1 * 7) + k2)), .int .i64 (vs.length : Int)] (by rfl) rfl rfl (by (try simp only [List.map_toArray, List.map_cons, List.map_nil]); first | done | rfl) ?_
    refine (glossatorref3_Mod.calls _ _ i _ HI.out).mono ?_
    rintro e w2 ⟨rfl, hdr⟩
    refine ⟨_, rfl, ?_⟩
    have hc2 : Chg (fun _ => False) W1 w2 := (Chg.drew _).trans (Chg.drawn hdr) (fun _ _ h => h)
    have hb2 : Below W1.heap.size W1 w2 := hc2.to_below (fun _ _ h => h.elim) (Nat.le_refl _)
    have hr2 := hc2.at HR1.out (fun h => h)
    have HB2 := Aside0.mk (HB1.out.trans (hb2.mono HB1.out.size))
    have HS2 := Aside0.mk (HKS.out w2 hb2)
    have HR2 := Aside0.mk hr2
    clear hc2 hb2 hr2 hdr
    refine hK.out _ _ (HS2.out) (fun hHeld => ?_)
    clear hK K
    refine norm_ (a' := ?_) ?_ ?_
    rotate_left
    · show Act.put _ (some 17) _ = _
      simp only [Act.put, List.setIfInBounds_toArray, List.set_cons_zero, List.set_cons_succ, i64_w, i32_w]
      rfl
    refine pure_ (i := 10) (N := some 18) (v := ?_) (a' := ?_) #[true, true, true, true, true, true, true, true, true, true, true, false, false] rfl rfl (by kernel_rfl) (fun _ _ _ h => h) (Or.inl ⟨by rfl, ?_⟩) ?_ ?_
    rotate_left
    · intro w'
      go_simp
      with_reducible rfl
    rotate_left
    · simp only [Act.put, List.setIfInBounds_toArray, List.set_cons_zero, List.set_cons_succ, i64_w, i32_w]
      rfl
    refine take_ (i := 11) (N := some 19) (v := ?_) (a' := ?_) #[true, true, true, true, true, true, true, true, true, true, true, true, false] rfl rfl (by kernel_rfl) (fun _ _ _ h => h) (Or.inl ⟨by rfl, ?_⟩) hHeld ?_ ?_
    rotate_left
    · rintro w' ⟨s0_, s1_, s2_, s3_, s4_⟩
      go_simp
      with_reducible rfl
    rotate_left
    · simp only [Act.put, List.setIfInBounds_toArray, List.set_cons_zero, List.set_cons_succ, i64_w, i32_w]
      rfl
    refine last_ (i := 12) (N := none) #[true, true, true, true, true, true, true, true, true, true, true, true, true] rfl rfl (by kernel_rfl) (by decide) (fun K hK => ?_)
    have s0 : w2.cell? ⟨w.heap.size + 1, 0, none⟩ = some (.slice none 0 0) := (cells_of_blk HR2.out 0).trans rfl
    have s1 : w2.cell? ⟨w.heap.size + 1, 1, none⟩ = some (.string (⟨#[]⟩ : ByteArray)) := (cells_of_blk HR2.out 1).trans rfl
    have f0 := free_of_blk HR2.out 0
    have f1 := free_of_blk HR2.out 1
    refine skip_ (w1 := ?_) (by rfl) rfl ?_ ?_
    rotate_left
    · go_simp
      rfl
    refine hK.out _ _ (done_ (by kernel_rfl) ?_)
    clear hK K s0 s1 f0 f1
    go_wp2
    try simp only [Exit.inBlock, Exit.then]
    refine bodyPost_ret (results_cell_row (d := _) rfl _ _ (w.heap.size + 1) 31 #[.slice A0 x.f0.length ca, .string x.f1] (0, 0) rfl (hb_set (hb_set HR2.out 0 _) 1 _) Try.underlying31 rfl (by kernel_rfl)) rfl ?_
    exact ⟨A0, ca, rfl, L0.out, G0.out, (HB2.out.setCell (by show w.heap.size ≤ w.heap.size + 1; omega) _).setCell (by show w.heap.size ≤ w.heap.size + 1; omega) _⟩
/-- The keys asked for so far, and what stands still. -/
def gotI (A : Option Addr) (c : Nat) (vs : List S31) (w0 : World) (vb lb kb : Nat) (keys : List S26) (S : Nat → Prop) (W : World) : Prop :=
  ∃ v, (∀ k, S k ↔ k = kb ∨ v.ownBlock = some k) ∧ W.heap[kb]? = some (.cells #[v] 34 (0, 0)) ∧ Kd.R k26 26 W (kb + 1) (fun k => some k = v.ownBlock) v keys ∧ W.heap[lb]? = some (.cells #[.func (.func 15) #[] #[.pointer (some ⟨vb, 0, none⟩)]] 33 (0, 0)) ∧
    W.heap[vb]? = some (.cells #[.slice A vs.length c] 27 (0, 0)) ∧ Below w0.heap.size w0 W ∧ w0.heap.size ≤ vb ∧ vb < lb ∧ lb < kb
def gotG (vs : List S31) (keys : List S26) (k1 k2 k3 : Int) : Option (S31 × List S26) := if keys.length < 5864062014805 then (lkP vs k1 k2).map (fun x => (x, keys ++ [⟨k1, k2, k3⟩])) else none
section
variable {A : Option Addr} {c : Nat} {vs : List S31} {w0 : World} {vb lb kb : Nat}
theorem got_keep {keys S W W'} (h : gotI A c vs w0 vb lb kb keys S W) (hc : Chg (fun k => ¬ S k ∧ kb + 1 ≤ k) W W') : gotI A c vs w0 vb lb kb keys S W' := by
  obtain ⟨v, h1, h2, h3, h4, h5, h6, h7, h8, h9⟩ := h
  refine ⟨v, h1, hc.at h2 (fun e => by omega), ?_, hc.at h4 (fun e => by omega), hc.at h5 (fun e => by omega), ?_, h7, h8, h9⟩
  · exact Kd.R_step h3 (fun k hk hlt => hc.block k hlt (fun e => e.1 ((h1 k).2 (.inr hk.symm))))
  · exact h6.trans (hc.to_below (fun k _ e => by omega) h6.size)
theorem got_lt {keys S W} {k : Nat} (h : gotI A c vs w0 vb lb kb keys S W) (hk : S k) : k < W.heap.size := by
  obtain ⟨v, h1, h2, h3, _⟩ := h
  rcases (h1 k).1 hk with e | e
  · subst e; exact lt_of_blk h2
  · exact Kd.R_lt h3 k e
/-- Behind the append: the state anew. -/
theorem got_next {keys : List S26} {x : S26} {S : Nat → Prop} {W w2 w5 w6 : World} {V V5 : Option Addr} {cv c5 : Nat} (hI : gotI A c vs w0 vb lb kb keys S W) (hkb : W.heap[kb]? = some (.cells #[.slice V keys.length cv] 34 (0, 0))) (hbw : Below W.heap.size W w2)
    (ho : Kd.R k26 26 w5 (kb + 1) (fun _ => True) (.slice V5 (keys.length + 1) c5) (keys ++ [x])) (hg : w2.grownBy w5 (Value.slice V keys.length cv).ownBlock) (hat : (Value.slice V5 (keys.length + 1) c5).ownBlock = (Value.slice V keys.length cv).ownBlock ∨ ∃ b, (Value.slice V5 (keys.length + 1) c5).ownBlock = some b ∧ w2.heap.size ≤ b)
    (hw6 : w6 = w5.setCell ⟨kb, 0, none⟩ (.slice V5 (keys.length + 1) c5)) :
    ∃ S', gotI A c vs w0 vb lb kb (keys ++ [x]) S' w6 ∧ Chg S W w6 ∧ ∀ k, S' k → S k ∨ w2.heap.size ≤ k := by
  obtain ⟨v, h1, h2, h3, h4, h5, h6, h7, h8, h9⟩ := hI
  have hv : v = .slice V keys.length cv := by
    rw [h2] at hkb
    injection hkb with e
    injection e with e
    injection e with e
    injection e with e
  subst hv
  have hrow : ∀ k, (Value.slice V keys.length cv).ownBlock = some k → kb + 1 ≤ k := fun k e => Kd.R_base h3 k e
  have hlen : keys.length + 1 = (keys ++ [x]).length := by simp
  have hc5 : Chg (fun k => (Value.slice V keys.length cv).ownBlock = some k) W w5 := (Chg.of_new hbw : Chg _ W w2).trans (Chg.of_grown hg (fun k e => e)) (fun _ _ h => h)
  have hkb5 := hc5.at h2 (fun e => by have := hrow _ e; omega)
  have hc6 : Chg S W w6 := by
    rw [hw6]
    exact (hc5.mono (T := S) (fun k _ e => (h1 k).2 (.inr e))).trans (Chg.set _ _ _ ((h1 kb).2 (.inl rfl))) (fun _ _ h => h)
  have hS : ∀ k, S k → kb ≤ k := fun k hk => by
    rcases (h1 k).1 hk with e | e
    · omega
    · have := hrow _ e; omega
  refine ⟨fun k => k = kb ∨ (Value.slice V5 (keys.length + 1) c5).ownBlock = some k, ⟨.slice V5 (keys.length + 1) c5, fun k => Iff.rfl, by rw [hw6]; exact hb_set hkb5 0 _, ?_, hc6.at h4 (fun e => by have := hS _ e; omega), hc6.at h5 (fun e => by have := hS _ e; omega), h6.trans (hc6.to_below (fun k _ e => by have := hS _ e; omega) h6.size), h7, h8, h9⟩, hc6, ?_⟩
  · rw [hw6]
    refine Kd.R_tight k26_E (Kd.R_mono (Kd.R_step (Kd.R_bound ho) (fun k hk _ => Below.heap_setCell _ _ _ _ (by have := hk.2.1; show k ≠ kb; omega))) (fun _ _ => trivial) (ok' := fun _ => True))
  · intro k hk
    rcases hk with hk | hk
    · exact .inl ((h1 k).2 (.inl hk))
    · rcases hat with g4 | ⟨b, g4, g5⟩
      · rw [g4] at hk; exact .inl ((h1 k).2 (.inr hk))
      · rw [g4] at hk; injection hk with hk; subst hk; exact .inr g5
set_option maxRecDepth 100000 in
set_option maxHeartbeats 4000000 in
theorem got_calls (hv : Kd.C k31 w0 A vs.length vs) {k1 k2 k3 : Int} {x : S31} {keys keys' : List S26} {S : Nat → Prop} {W : World} (h : gotG vs keys k1 k2 k3 = some (x, keys')) (hI : gotI A c vs w0 vb lb kb keys S W) :
    Calls Try.prog 18 #[.agg #[.int .i64 k1, .int .i64 k2, .int .i64 k3], .pointer (some ⟨kb, 0, none⟩), .pointer (some ⟨lb, 0, none⟩)] W fun e w' => (∃ A0 c0, e = .returned (.agg #[.slice A0 x.f0.length c0, .string x.f1]) ∧ x.f0.length ≤ c0 ∧ Kd.C (Kd.int .i64) w0 A0 x.f0.length x.f0) ∧
      ∃ S', gotI A c vs w0 vb lb kb keys' S' w' ∧ Chg S W w' ∧ ∀ k, S' k → S k ∨ W.heap.size ≤ k := by
  unfold gotG at h
  split at h
  case isFalse => cases h
  case isTrue hlim =>
  obtain ⟨x', hx, he⟩ := Option.map_eq_some_iff.1 h
  injection he with e1 e2
  subst e1 e2
  have HI := Aside0.mk hI
  obtain ⟨v, hS, hkb, hvr, hlb, hvb, hbel, o1, o2, o3⟩ := hI
  obtain ⟨V, cv, hvs⟩ := Kd.R_slice hvr
  subst hvs
  have HLIM := Aside0.mk hlim
  have HX := Aside0.mk hx
  have HVS := Aside0.mk hv
  have HKB := Aside0.mk hkb
  have HVR := Aside0.mk hvr
  have hszk := lt_of_blk hkb
  clear h hlim hx hv hS hkb hvr hlb hvb hbel
  go_enter Try.func18, Try.ntmps18
  go_upto_region 1 with (fail)
  obtain ⟨W1, hW1, hb1, hk1, hr1⟩ := key_box W k1 k2 k3
  rw [hW1]
  clear hW1
  have hkb1 := (hb1.block _ (lt_of_blk HKB.out)).trans HKB.out
  have y0 := cell_of_blk hkb1
  have x0 : W1.cell? ⟨W.heap.size, 0, none⟩ = some (.int .i64 k1) := (cells_of_blk hk1 0).trans rfl
  have x1 : W1.cell? ⟨W.heap.size, 1, none⟩ = some (.int .i64 k2) := (cells_of_blk hk1 1).trans rfl
  have x2 : W1.cell? ⟨W.heap.size, 2, none⟩ = some (.int .i64 k3) := (cells_of_blk hk1 2).trans rfl
  have HV1 := Aside0.mk (Kd.R_mono (Kd.R_below HVR.out hb1) (ok' := fun _ => True) (fun _ _ => trivial))
  have HB1 := Aside0.mk hb1
  have HKB1 := Aside0.mk hkb1
  have HK1 := Aside0.mk hk1
  have HR1 := Aside0.mk hr1
  clear hb1 hkb1 hk1 hr1
  go_upto_region 2 with (first | ((with_reducible refine gate_builtin (b := .append) (xs := #[.tmp 5, .tmp 7]) rfl ?_); at_builtin; refine Kd.R_append k26 (w0 := W1) (kb + 1) rfl (.tmp 5) (.tmp 7) 34 26 (.agg #[.int .i64 0, .int .i64 0, .int .i64 0]) 24 rfl Try.underlying34 info_26 rfl (by decide) (by omega) (.slice V keys.length cv) keys ⟨k1, k2, k3⟩ [.int .i64 k1, .int .i64 k2, .int .i64 k3] (fun _ => True) (fun _ => False) rfl rfl (k26_mkM _ _ _ ⟨k1, k2, k3⟩) (fun _ h => h.elim) (fun _ _ => trivial) HV1.out (Below.refl _ _) (lt_of_blk HKB1.out) (by have := HLIM.out; omega) ?_; intro v5 w5 ho hb hg hat; (obtain ⟨V5, c5, hv5⟩ := Kd.R_slice ho); (have hv6 := hv5); (rw [List.length_append, List.length_singleton] at hv5); subst hv5; (have hkb5 := (hb.block _ (Nat.lt_succ_self kb)).trans HKB1.out); (have s6 := cell_of_blk hkb5); (have f6 := free_of_blk hkb5 0); (have HO5 := Aside0.mk ho); (have HB5_ := Aside0.mk hb); (have HG5 := Aside0.mk hg); (have HAT := Aside0.mk hat); (have HKB5 := Aside0.mk hkb5); clear ho hb hg hat y0 hv6 hkb5))
  obtain ⟨w6, hw6⟩ : ∃ w6, w5.setCell ⟨kb, 0, none⟩ (.slice V5 (keys.length + 1) c5) = w6 := ⟨_, rfl⟩
  have hstep : ∀ {k : Nat} {o : Obj}, W1.heap[k]? = some o → kb < k → (∀ j, (Value.slice V keys.length cv).ownBlock = some j → k ≠ j) → w6.heap[k]? = some o := fun {k o} h1 h2 h3 => by
    rw [← hw6]
    exact hb_far ((HG5.out.block _ (lt_of_blk h1) (fun e => h3 _ e.symm rfl)).trans h1) (by show k ≠ kb; omega) _
  have hown : ∀ j, (Value.slice V keys.length cv).ownBlock = some j → j < W.heap.size := fun j e => Kd.R_lt HVR.out j e
  have hk6 := hstep HK1.out (by omega) (fun j e => by have := hown j e; omega)
  have hr6 := hstep HR1.out (by omega) (fun j e => by have := hown j e; omega)
  obtain ⟨S6, hI6, hc6, hS6⟩ := got_next HI.out HKB.out HB1.out HO5.out HG5.out HAT.out hw6.symm
  rw [hw6]
  clear hw6 hstep hown s6 f6 x0 x1 x2
  have hlb6 : w6.heap[lb]? = some (.cells #[.func (.func 15) #[] #[.pointer (some ⟨vb, 0, none⟩)]] 33 (0, 0)) := by obtain ⟨_, _, _, _, h, _⟩ := hI6; exact h
  have HKS := Aside0.mk (show (fun w' => w'.cell? ⟨lb, 0, none⟩ = some (.func (.func 15) #[] #[.pointer (some ⟨vb, 0, none⟩)]) ∧ w'.cell? ⟨W.heap.size, 0, none⟩ = some (.int .i64 k1) ∧ w'.cell? ⟨W.heap.size, 1, none⟩ = some (.int .i64 k2) ∧ w'.cell? ⟨W.heap.size, 2, none⟩ = some (.int .i64 k3)) w6 from ⟨cell_of_blk hlb6, (cells_of_blk hk6 0).trans rfl, (cells_of_blk hk6 1).trans rfl, (cells_of_blk hk6 2).trans rfl⟩)
  have HI6 := Aside0.mk hI6
  have HC6 := Aside0.mk hc6
  have HS6 := Aside0.mk hS6
  have HR6 := Aside0.mk hr6
  clear hI6 hc6 hS6 hr6 hk6 hlb6
  have hvb6 : w6.heap[vb]? = some (.cells #[.slice A vs.length c] 27 (0, 0)) := by obtain ⟨_, _, _, _, _, h, _⟩ := HI6.out; exact h
  have hbel6 : Below w0.heap.size w0 w6 := by obtain ⟨_, _, _, _, _, _, h, _⟩ := HI6.out; exact h
  have HC := Aside0.mk (lk_calls vb A c vs k1 k2 k3 x' w0 w6 hvb6 HVS.out hbel6 HX.out)
  obtain ⟨u0, u1, u2, u3⟩ := HKS.out
  clear hvb6 hbel6
  go_wp2_with (first | ((with_reducible refine gate_dst (N := 11) rfl ?_); refine callL_ (some 11) rfl rfl 15 #[.agg #[.int .i64 k1, .int .i64 k2, .int .i64 k3], .pointer (some ⟨vb, 0, none⟩)] (by have hen := fun args w => enters_ Try.func15 (by kernel_rfl) rfl args w; simp [execOp, resolve, invoke, Deferred.ofValue, Act.eval, hen]) ?_; refine HC.out.mono ?_; rintro e w7 ⟨A0, c0, rfl, hl0, hC0, hb7⟩; refine ⟨_, rfl, ?_⟩; have hr7 := (hb7.block _ (lt_of_blk HR6.out)).trans HR6.out; have s0 : w7.cell? ⟨W.heap.size + 1, 0, none⟩ = some (.slice none 0 0) := (cells_of_blk hr7 0).trans rfl; have s1 : w7.cell? ⟨W.heap.size + 1, 1, none⟩ = some (.string (⟨#[]⟩ : ByteArray)) := (cells_of_blk hr7 1).trans rfl; have f0 := free_of_blk hr7 0; have f1 := free_of_blk hr7 1; have HR7 := Aside0.mk hr7; have HB7 := Aside0.mk hb7; have HL0 := Aside0.mk hl0; have HC0 := Aside0.mk hC0; clear hr7 hb7 hl0 hC0 u0 u1 u2 u3))
  clear s0 s1 f0 f1
  try simp only [Exit.inBlock, Exit.then]
  refine bodyPost_ret (results_cell_row (d := _) rfl _ _ (W.heap.size + 1) 31 #[.slice A0 x'.f0.length c0, .string x'.f1] (0, 0) rfl (hb_set (hb_set HR7.out 0 _) 1 _) Try.underlying31 rfl (by kernel_rfl)) rfl ?_
  have hz := lt_of_blk HR1.out
  have hzk := lt_of_blk HKB.out
  have hn : ¬ S6 (W.heap.size + 1) := fun h => by
    rcases HS6.out _ h with h | h
    · have := got_lt HI.out h; omega
    · omega
  have hc0 : Chg (fun k => k = W.heap.size + 1) w6 ((w7.setCell ⟨W.heap.size + 1, 0, none⟩ (.slice A0 x'.f0.length c0)).setCell ⟨W.heap.size + 1, 1, none⟩ (.string x'.f1)) :=
    ((Chg.of_new HB7.out : Chg _ w6 w7).trans (Chg.set w7 ⟨W.heap.size + 1, 0, none⟩ (.slice A0 x'.f0.length c0) (S := fun k => k = W.heap.size + 1) rfl) (fun _ _ h => h)).trans (Chg.set _ ⟨W.heap.size + 1, 1, none⟩ (.string x'.f1) (S := fun k => k = W.heap.size + 1) rfl) (fun _ _ h => h)
  refine ⟨⟨A0, c0, rfl, HL0.out, HC0.out⟩, S6, got_keep HI6.out (hc0.mono (fun k _ e => by subst e; exact ⟨hn, by omega⟩)), HC6.out.trans hc0 (fun j hj e => by omega), fun k hk => (HS6.out k hk).imp id (fun h => by omega)⟩
theorem field_31 (A0 : Option Addr) (n c0 : Nat) (t : ByteArray) (w : World) : Sem.run Try.prog (Instr.field 31 (.agg #[.slice A0 n c0, .string t]) 0) w = .ok (.slice A0 n c0) w := by kernel_rfl
/-- What Compile's inner closure answers: the number in what the law's closure gives. -/
def numG (vs : List S31) (keys : List S26) (k1 k2 k3 : Int) : Option (Int × List S26) :=
  (gotG vs keys k1 k2 k3).bind fun p => if p.1.f0.length = 0 then some (0, p.2) else (querylang_reduce.f (rd p.1.f0 0)).map (fun n => (n, p.2))
def numI (A : Option Addr) (c : Nat) (vs : List S31) (w0 : World) (vb lb kb gx : Nat) (keys : List S26) (S : Nat → Prop) (W : World) : Prop :=
  gotI A c vs w0 vb lb kb keys S W ∧ W.heap[gx]? = some (.cells #[.func (.func 18) #[] #[.pointer (some ⟨kb, 0, none⟩), .pointer (some ⟨lb, 0, none⟩)]] 33 (0, 0)) ∧ kb < gx ∧ ¬ S gx
theorem num_keep {gx : Nat} {keys S W W'} (h : numI A c vs w0 vb lb kb gx keys S W) (hc : Chg (fun k => ¬ S k ∧ gx + 1 ≤ k) W W') : numI A c vs w0 vb lb kb gx keys S W' := by
  obtain ⟨h1, h2, h3, h4⟩ := h
  exact ⟨got_keep h1 (hc.mono (fun k _ e => ⟨e.1, by omega⟩)), hc.at h2 (fun e => by omega), h3, h4⟩
set_option maxRecDepth 100000 in
set_option maxHeartbeats 4000000 in
theorem num_calls {gx : Nat} (hv : Kd.C k31 w0 A vs.length vs) {k1 k2 k3 n : Int} {keys keys' : List S26} {S : Nat → Prop} {W : World} (h : numG vs keys k1 k2 k3 = some (n, keys')) (hI : numI A c vs w0 vb lb kb gx keys S W) :
    Calls Try.prog 91 #[.agg #[.int .i64 k1, .int .i64 k2, .int .i64 k3], .pointer (some ⟨gx, 0, none⟩)] W fun e w' => e = .returned (.int .i64 n) ∧
      ∃ S', numI A c vs w0 vb lb kb gx keys' S' w' ∧ Chg S W w' ∧ ∀ k, S' k → S k ∨ W.heap.size ≤ k := by
  obtain ⟨⟨x, keys2⟩, hx, h⟩ := Option.bind_eq_some_iff.1 h
  dsimp only at h
  obtain ⟨hI, hgx, hkg, hSg⟩ := hI
  have HX := Aside0.mk hx
  have HVS := Aside0.mk hv
  have HGX := Aside0.mk hgx
  have HH := Aside0.mk h
  have hgz := lt_of_blk hgx
  have hb1 : Below W.heap.size W (W.alloc (.cells #[.int .i64 k1, .int .i64 k2, .int .i64 k3] 26)) := below_alloc (Below.refl _ _) _
  have hI1 := got_keep hI (Chg.of_new hb1)
  have hgx1 := (hb1.block _ hgz).trans hgx
  have hk1 := hb_new W (.cells #[.int .i64 k1, .int .i64 k2, .int .i64 k3] 26)
  have HI := Aside0.mk hI
  clear hx hv hgx h hI
  go_enter Try.func91, Try.ntmps91
  go_upto_region 1 with (fail)
  obtain ⟨W1, hW1⟩ : ∃ W1, W.alloc (.cells #[.int .i64 k1, .int .i64 k2, .int .i64 k3] 26) = W1 := ⟨_, rfl⟩
  rw [hW1] at hb1 hI1 hgx1 hk1 ⊢
  clear hW1
  have HC := Aside0.mk (got_calls HVS.out HX.out hI1)
  have x0 : W1.cell? ⟨W.heap.size, 0, none⟩ = some (.int .i64 k1) := (cells_of_blk hk1 0).trans rfl
  have x1 : W1.cell? ⟨W.heap.size, 1, none⟩ = some (.int .i64 k2) := (cells_of_blk hk1 1).trans rfl
  have x2 : W1.cell? ⟨W.heap.size, 2, none⟩ = some (.int .i64 k3) := (cells_of_blk hk1 2).trans rfl
  have y0 := cell_of_blk hgx1
  have HB1 := Aside0.mk hb1
  have HGX1 := Aside0.mk hgx1
  have HI1 := Aside0.mk hI1
  clear hb1 hI1 hgx1 hk1
  go_upto_region 2 with (first | ((with_reducible refine gate_dst (N := 7) rfl ?_); refine callL_ (some 7) rfl rfl 18 #[.agg #[.int .i64 k1, .int .i64 k2, .int .i64 k3], .pointer (some ⟨kb, 0, none⟩), .pointer (some ⟨lb, 0, none⟩)] (by have hen := fun args w => enters_ Try.func18 (by kernel_rfl) rfl args w; simp [execOp, resolve, invoke, Deferred.ofValue, Act.eval, hen]) ?_; refine HC.out.mono ?_; rintro e w7 ⟨⟨A0, c0, rfl, hl0, hC0⟩, S7, hI7, hc7, hS7⟩; refine ⟨_, rfl, ?_⟩; have HI7 := Aside0.mk hI7; have HC7 := Aside0.mk hc7; have HS7 := Aside0.mk hS7; have HL0 := Aside0.mk hl0; have HC0 := Aside0.mk hC0; clear hI7 hc7 hS7 hl0 hC0 x0 x1 x2 y0; have hfl := field_31 A0 x.f0.length c0 x.f1 w7))
  have hbz := HB1.out.size
  have hbel7 : Below w0.heap.size w0 w7 := by obtain ⟨_, _, _, _, _, _, h, _⟩ := HI7.out; exact h
  have HF := Aside0.mk (show ∀ w9, Chg (fun _ => False) w7 w9 → ∃ S', numI A c vs w0 vb lb kb gx keys2 S' w9 ∧ Chg S W w9 ∧ ∀ k, S' k → S k ∨ W.heap.size ≤ k from fun w9 h9 =>
    ⟨S7, ⟨got_keep HI7.out (h9.mono (fun _ _ e => e.elim)), h9.at (HC7.out.at HGX1.out hSg) (fun e => e), hkg, fun e => (HS7.out _ e).elim hSg (fun e => by omega)⟩,
      ((Chg.of_new HB1.out : Chg S W W1).trans HC7.out (fun _ _ e => e)).trans (h9.mono (T := S) (fun _ _ e => e.elim)) (fun _ _ e => e), fun k hk => (HS7.out k hk).imp id (fun e => by omega)⟩)
  have h := HH.out
  by_cases c1 : x.f0.length = 0
  · rw [if_pos c1] at h
    injection h with h
    injection h with h1 h2
    subst h1 h2
    have b0 : ((x.f0.length : Int) == 0) = true := by simp [c1]
    clear c1 HH
    go_wp2
    go_ret
    exact ⟨rfl, HF.out _ (Chg.refl _ _)⟩
  · rw [if_neg c1] at h
    obtain ⟨m, hm, he⟩ := Option.map_eq_some_iff.1 h
    injection he with h1 h2
    subst h1 h2
    have b0 : ((x.f0.length : Int) == 0) = false := beq_eq_false_iff_ne.2 (by omega)
    obtain ⟨ad, rfl, z0⟩ := Kd.at_int (Kd.C_below HC0.out hbel7) 0 (by omega) (by omega)
    have h0 : ad.add (0 : Int).toNat = ad := by cases ad; simp [Addr.add]
    rw [h0] at z0
    have p1 := eq_true (show (0 : Int) < (x.f0.length : Int) by omega)
    have p2 := eq_true (show 0 < x.f0.length by omega)
    have HM := Aside0.mk hm
    clear c1 HH h hm
    go_wp2_with (go_at_call 92; refine (querylang_reduce.calls _ m _ HM.out).mono ?_; rintro e w9 ⟨rfl, hdr⟩)
    go_ret
    exact ⟨rfl, HF.out _ (Chg.drawn hdr)⟩
/-- The oracle that Compile's inner closure is for run. -/
theorem num_oracle {gx : Nat} (hv : Kd.C k31 w0 A vs.length vs) : Oracle (gx + 1) 91 #[] #[.pointer (some ⟨gx, 0, none⟩)] (numG vs) (numI A c vs w0 vb lb kb gx) where
  lt := fun h hk => got_lt h.1 hk
  keep := fun h hc => num_keep h hc
  enters := fun args w => enters_ Try.func91 (by kernel_rfl) rfl args w
  goes := fun h hg => num_calls hv hg h
end

def refG (vs : List S31) (keys : List S26) (k1 k2 : Int) : Option (Int × Bool × List S26) :=
  (gotG vs keys k1 k2 0).bind fun p => (glossatorref3_Number.f p.1.f0 p.1.f1).map (fun n => (n, true, p.2))
section
variable {A : Option Addr} {c : Nat} {vs : List S31} {w0 : World} {vb lb kb : Nat}
set_option maxRecDepth 100000 in
set_option maxHeartbeats 4000000 in
theorem ref_calls (hv : Kd.C k31 w0 A vs.length vs) {k1 k2 n : Int} {b : Bool} {keys keys' : List S26} {S : Nat → Prop} {W : World} (h : refG vs keys k1 k2 = some (n, b, keys')) (hI : gotI A c vs w0 vb lb kb keys S W) :
    Calls Try.prog 22 #[.int .i64 k1, .int .i64 k2, .pointer (some ⟨kb, 0, none⟩), .pointer (some ⟨lb, 0, none⟩)] W fun e w' => e = .returned (.tuple #[.int .i64 n, .bool b]) ∧
      ∃ S', gotI A c vs w0 vb lb kb keys' S' w' ∧ Chg S W w' ∧ ∀ k, S' k → S k ∨ W.heap.size ≤ k := by
  obtain ⟨⟨x, keys2⟩, hx, h⟩ := Option.bind_eq_some_iff.1 h
  obtain ⟨m, hm, he⟩ := Option.map_eq_some_iff.1 h
  injection he with e1 e2
  injection e2 with e2 e3
  subst e1 e2 e3
  unfold gotG at hx
  split at hx
  case isFalse => cases hx
  case isTrue hlim =>
  obtain ⟨x', hx2, he⟩ := Option.map_eq_some_iff.1 hx
  injection he with e1 e2
  subst e1 e2
  dsimp only at hm
  have HI := Aside0.mk hI
  obtain ⟨v, hS, hkb, hvr, hlb, hvb, hbel, o1, o2, o3⟩ := hI
  obtain ⟨V, cv, hvs⟩ := Kd.R_slice hvr
  subst hvs
  have HLIM := Aside0.mk hlim
  have HX := Aside0.mk hx2
  have HM := Aside0.mk hm
  have HVS := Aside0.mk hv
  have HKB := Aside0.mk hkb
  have HVR := Aside0.mk hvr
  have hszk := lt_of_blk hkb
  clear h hlim hx hx2 hm hv hS hkb hvr hlb hvb hbel
  go_enter Try.func22, Try.ntmps22
  go_upto_region 2 with (fail)
  obtain ⟨W1, hW1⟩ : ∃ W1, W.alloc (.cells #[.int .i64 k1, .int .i64 k2, .int .i64 0] 26) = W1 := ⟨_, rfl⟩
  have hk1 : W1.heap[W.heap.size]? = some (.cells #[.int .i64 k1, .int .i64 k2, .int .i64 0] 26 (0, 0)) := by rw [← hW1]; exact hb_new W _
  have hb1 : Below W.heap.size W W1 := by rw [← hW1]; exact below_alloc (Below.refl _ _) _
  have hz1 : W1.heap.size = W.heap.size + 1 := by rw [← hW1]; simp
  rw [hW1]
  clear hW1
  have hkb1 := (hb1.block _ (lt_of_blk HKB.out)).trans HKB.out
  have y0 := cell_of_blk hkb1
  have x0 : W1.cell? ⟨W.heap.size, 0, none⟩ = some (.int .i64 k1) := (cells_of_blk hk1 0).trans rfl
  have x1 : W1.cell? ⟨W.heap.size, 1, none⟩ = some (.int .i64 k2) := (cells_of_blk hk1 1).trans rfl
  have x2 : W1.cell? ⟨W.heap.size, 2, none⟩ = some (.int .i64 0) := (cells_of_blk hk1 2).trans rfl
  have HV1 := Aside0.mk (Kd.R_mono (Kd.R_below HVR.out hb1) (ok' := fun _ => True) (fun _ _ => trivial))
  have HB1 := Aside0.mk hb1
  have HKB1 := Aside0.mk hkb1
  have HK1 := Aside0.mk hk1
  have HZ1 := Aside0.mk hz1
  clear hb1 hkb1 hk1 hz1
  go_upto_region 3 with (first | ((with_reducible refine gate_builtin (b := .append) (xs := #[.tmp 12, .tmp 14]) rfl ?_); at_builtin; refine Kd.R_append k26 (w0 := W1) (kb + 1) rfl (.tmp 12) (.tmp 14) 34 26 (.agg #[.int .i64 0, .int .i64 0, .int .i64 0]) 24 rfl Try.underlying34 info_26 rfl (by decide) (by omega) (.slice V keys.length cv) keys ⟨k1, k2, 0⟩ [.int .i64 k1, .int .i64 k2, .int .i64 0] (fun _ => True) (fun _ => False) rfl rfl (k26_mkM _ _ _ ⟨k1, k2, 0⟩) (fun _ h => h.elim) (fun _ _ => trivial) HV1.out (Below.refl _ _) (lt_of_blk HKB1.out) (by have := HLIM.out; omega) ?_; intro v5 w5 ho hb hg hat; (obtain ⟨V5, c5, hv5⟩ := Kd.R_slice ho); (have hv6 := hv5); (rw [List.length_append, List.length_singleton] at hv5); subst hv5; (have hkb5 := (hb.block _ (Nat.lt_succ_self kb)).trans HKB1.out); (have s6 := cell_of_blk hkb5); (have f6 := free_of_blk hkb5 0); (have HO5 := Aside0.mk ho); (have HB5_ := Aside0.mk hb); (have HG5 := Aside0.mk hg); (have HAT := Aside0.mk hat); (have HKB5 := Aside0.mk hkb5); clear ho hb hg hat y0 hv6 hkb5))
  obtain ⟨w6, hw6⟩ : ∃ w6, w5.setCell ⟨kb, 0, none⟩ (.slice V5 (keys.length + 1) c5) = w6 := ⟨_, rfl⟩
  have hown : ∀ j, (Value.slice V keys.length cv).ownBlock = some j → j < W.heap.size := fun j e => Kd.R_lt HVR.out j e
  have hk6 : w6.heap[W.heap.size]? = some (.cells #[.int .i64 k1, .int .i64 k2, .int .i64 0] 26 (0, 0)) := by
    rw [← hw6]
    exact hb_far ((HG5.out.block _ (lt_of_blk HK1.out) (fun e => by have := hown _ e.symm; omega)).trans HK1.out) (by show W.heap.size ≠ kb; omega) _
  obtain ⟨S6, hI6, hc6, hS6⟩ := got_next HI.out HKB.out HB1.out HO5.out HG5.out HAT.out hw6.symm
  rw [hw6]
  clear hw6 hown s6 f6 x0 x1 x2
  have hlb6 : w6.heap[lb]? = some (.cells #[.func (.func 15) #[] #[.pointer (some ⟨vb, 0, none⟩)]] 33 (0, 0)) := by obtain ⟨_, _, _, _, h, _⟩ := hI6; exact h
  have u0 := cell_of_blk hlb6
  have u1 : w6.cell? ⟨W.heap.size, 0, none⟩ = some (.int .i64 k1) := (cells_of_blk hk6 0).trans rfl
  have u2 : w6.cell? ⟨W.heap.size, 1, none⟩ = some (.int .i64 k2) := (cells_of_blk hk6 1).trans rfl
  have u3 : w6.cell? ⟨W.heap.size, 2, none⟩ = some (.int .i64 0) := (cells_of_blk hk6 2).trans rfl
  have HI6 := Aside0.mk hI6
  have HC6 := Aside0.mk hc6
  have HS6 := Aside0.mk hS6
  clear hI6 hc6 hS6 hk6 hlb6
  have hvb6 : w6.heap[vb]? = some (.cells #[.slice A vs.length c] 27 (0, 0)) := by obtain ⟨_, _, _, _, _, h, _⟩ := HI6.out; exact h
  have hbel6 : Below w0.heap.size w0 w6 := by obtain ⟨_, _, _, _, _, _, h, _⟩ := HI6.out; exact h
  have HC := Aside0.mk (lk_calls vb A c vs k1 k2 0 x' w0 w6 hvb6 HVS.out hbel6 HX.out)
  have HBEL6 := Aside0.mk hbel6
  clear hvb6 hbel6
  go_wp2_with (first | ((with_reducible refine gate_dst (N := 18) rfl ?_); refine callL_ (some 18) rfl rfl 15 #[.agg #[.int .i64 k1, .int .i64 k2, .int .i64 0], .pointer (some ⟨vb, 0, none⟩)] (by have hen := fun args w => enters_ Try.func15 (by kernel_rfl) rfl args w; simp [execOp, resolve, invoke, Deferred.ofValue, Act.eval, hen]) ?_; refine HC.out.mono ?_; rintro e w7 ⟨A0, c0, rfl, hl0, hC0, hb7⟩; refine ⟨_, rfl, ?_⟩; have HB7 := Aside0.mk hb7; have HL0 := Aside0.mk hl0; have HC0 := Aside0.mk (Kd.C_below hC0 (HBEL6.out.trans (hb7.mono HBEL6.out.size))); clear hb7 hl0 hC0 u0 u1 u2 u3) | (go_at_call 23; refine (glossatorref3_Number.calls A0 c0 x'.f0 x'.f1 m w7 HC0.out HL0.out HM.out).mono ?_; rintro e w8 ⟨rfl, hb8⟩))
  go_ret2
  have hb68 := HB7.out.trans (hb8.mono HB7.out.size)
  have hz := HZ1.out
  exact ⟨rfl, S6, got_keep HI6.out (Chg.of_new hb68), HC6.out.trans (Chg.of_new hb68) (fun _ _ e => e), fun k hk => (HS6.out k hk).imp id (fun h => by omega)⟩
end

theorem one_int {w : World} {b : Nat} {n : Int} (h : w.heap[b]? = some (.cells #[.int .i64 n] 3 (0, 0))) : Kd.C (Kd.int .i64) w (some ⟨b, 0, none⟩) 1 [n] :=
  Kd.C_of_reads (d := 0) ⟨rfl, by omega, fun _ => ⟨_, rfl, fun j hj => by
    obtain rfl : j = 0 := by omega
    have e : (⟨b, 0, none⟩ : Addr).add 0 = ⟨b, 0, none⟩ := by simp [Addr.add]
    rw [e]
    exact cell_of_blk h⟩⟩
def cmpOk (valid : Bool) (qs : List (List S160)) (k1 k2 k3 : Int) : Prop := valid = true ∧ k1 = 1 ∧ k3 = 0 ∧ 0 ≤ k2 ∧ k2 < (qs.length : Int)
instance (valid : Bool) (qs : List (List S160)) (k1 k2 k3 : Int) : Decidable (cmpOk valid qs k1 k2 k3) := by unfold cmpOk; infer_instance
def cmpP (vs : List S31) (kf : Nat) (valid : Bool) (qs : List (List S160)) (k1 k2 k3 : Int) (keys : List S26) : Option (List Int × List S26) :=
  if cmpOk valid qs k1 k2 k3 then (runL (numG vs) kf k2 (rdq qs k2) [] keys).map (fun p => ([p.1], p.2)) else some ([], keys)
section
variable {A : Option Addr} {c : Nat} {vs : List S31} {w0 : World} {vb lb kb : Nat}
set_option maxRecDepth 100000 in
set_option maxHeartbeats 4000000 in
theorem cmp1_calls (hv : Kd.C k31 w0 A vs.length vs) (kf : Nat) {b1 qb : Nat} {valid : Bool} {AQ : Option Addr} {cq : Nat} {qs : List (List S160)} {k1 k2 k3 : Int} {keys keys' : List S26} {nums : List Int} {S : Nat → Prop} {W : World}
    (hb1 : W.heap[b1]? = some (.cells #[.bool valid] 4 (0, 0))) (hqb : W.heap[qb]? = some (.cells #[.slice AQ qs.length cq] 22 (0, 0))) (hqs : ∀ i : Int, 0 ≤ i → i < (qs.length : Int) → ∃ ad A0 c0, AQ = some ad ∧ (rdq qs i).length ≤ c0 ∧ ∀ W', Chg S W W' → W'.cell? (ad.add i.toNat) = some (.slice A0 (rdq qs i).length c0) ∧ Kd.C k160 W' A0 (rdq qs i).length (rdq qs i)) (hI : gotI A c vs w0 vb lb kb keys S W) (hSq : ¬ S qb)
    (h : cmpP vs kf valid qs k1 k2 k3 keys = some (nums, keys')) :
    Calls Try.prog 89 #[.agg #[.int .i64 k1, .int .i64 k2, .int .i64 k3], .func (.func 18) #[] #[.pointer (some ⟨kb, 0, none⟩), .pointer (some ⟨lb, 0, none⟩)], .pointer (some ⟨b1, 0, none⟩), .pointer (some ⟨qb, 0, none⟩)] W fun e w' =>
      (∃ AN cn, e = .returned (.agg #[.slice AN nums.length cn, .string (⟨#[]⟩ : ByteArray)]) ∧ nums.length ≤ cn ∧ ∀ Z, Chg (fun k => k < W.heap.size ∨ w'.heap.size ≤ k) w' Z → Kd.C (Kd.int .i64) Z AN nums.length nums) ∧ ∃ S', gotI A c vs w0 vb lb kb keys' S' w' ∧ Chg S W w' ∧ ∀ k, S' k → S k ∨ W.heap.size ≤ k := by
  have HB := Aside0.mk hb1
  have HQB := Aside0.mk hqb
  have HQS := Aside0.mk hqs
  have HI := Aside0.mk hI
  have HVS := Aside0.mk hv
  have HH := Aside0.mk h
  clear hb1 hqb hqs hI hv h
  go_enter Try.func89, Try.ntmps89
  go_upto_region 1 with (fail)
  obtain ⟨W1, hW1⟩ : ∃ W1, ((W.alloc (.cells #[.int .i64 k1, .int .i64 k2, .int .i64 k3] 26)).alloc (.cells #[.func (.func 18) #[] #[.pointer (some ⟨kb, 0, none⟩), .pointer (some ⟨lb, 0, none⟩)]] 33)).alloc (.cells #[.slice none 0 0, .string (⟨#[]⟩ : ByteArray)] 31) = W1 := ⟨_, rfl⟩
  have hbw : Below W.heap.size W W1 := by rw [← hW1]; exact below_alloc (below_alloc (below_alloc (Below.refl _ _) _) _) _
  have hk1 : W1.heap[W.heap.size]? = some (.cells #[.int .i64 k1, .int .i64 k2, .int .i64 k3] 26 (0, 0)) := by rw [← hW1]; exact hb_alloc (hb_alloc (hb_new W _))
  have hg1 : W1.heap[W.heap.size + 1]? = some (.cells #[.func (.func 18) #[] #[.pointer (some ⟨kb, 0, none⟩), .pointer (some ⟨lb, 0, none⟩)]] 33 (0, 0)) := by
    rw [← hW1]
    refine hb_alloc ?_
    have := hb_new (W.alloc (.cells #[.int .i64 k1, .int .i64 k2, .int .i64 k3] 26)) (.cells #[.func (.func 18) #[] #[.pointer (some ⟨kb, 0, none⟩), .pointer (some ⟨lb, 0, none⟩)]] 33)
    rwa [World.size_alloc] at this
  have hr1 : W1.heap[W.heap.size + 1 + 1]? = some (.cells #[.slice none 0 0, .string (⟨#[]⟩ : ByteArray)] 31 (0, 0)) := by
    rw [← hW1]
    have := hb_new ((W.alloc (.cells #[.int .i64 k1, .int .i64 k2, .int .i64 k3] 26)).alloc (.cells #[.func (.func 18) #[] #[.pointer (some ⟨kb, 0, none⟩), .pointer (some ⟨lb, 0, none⟩)]] 33)) (.cells #[.slice none 0 0, .string (⟨#[]⟩ : ByteArray)] 31)
    rwa [World.size_alloc, World.size_alloc] at this
  have hz1 : W1.heap.size = W.heap.size + 3 := by rw [← hW1]; simp
  rw [hW1]
  clear hW1
  have x0 : W1.cell? ⟨W.heap.size, 0, none⟩ = some (.int .i64 k1) := (cells_of_blk hk1 0).trans rfl
  have x1 : W1.cell? ⟨W.heap.size, 1, none⟩ = some (.int .i64 k2) := (cells_of_blk hk1 1).trans rfl
  have x2 : W1.cell? ⟨W.heap.size, 2, none⟩ = some (.int .i64 k3) := (cells_of_blk hk1 2).trans rfl
  have y0 := cell_of_blk ((hbw.block _ (lt_of_blk HB.out)).trans HB.out)
  have y1 := cell_of_blk ((hbw.block _ (lt_of_blk HQB.out)).trans HQB.out)
  have HBW := Aside0.mk hbw
  have HG1 := Aside0.mk hg1
  have HR1 := Aside0.mk hr1
  have HZ1 := Aside0.mk hz1
  have HK1 := Aside0.mk hk1
  clear hbw hk1 hg1 hr1 hz1
  have r0 : W1.cell? ⟨W.heap.size + 1 + 1, 0, none⟩ = some (.slice none 0 0) := (cells_of_blk HR1.out 0).trans rfl
  have r1 : W1.cell? ⟨W.heap.size + 1 + 1, 1, none⟩ = some (.string (⟨#[]⟩ : ByteArray)) := (cells_of_blk HR1.out 1).trans rfl
  have f0 := free_of_blk HR1.out 0
  have f1 := free_of_blk HR1.out 1
  have HNO := Aside0.mk (show ¬ cmpOk valid qs k1 k2 k3 → (∃ AN cn, Ending.returned (.agg #[.slice none 0 0, .string (⟨#[]⟩ : ByteArray)]) = .returned (.agg #[.slice AN nums.length cn, .string (⟨#[]⟩ : ByteArray)]) ∧ nums.length ≤ cn ∧ ∀ Z, Chg (fun k => k < W.heap.size ∨ ((W1.setCell ⟨W.heap.size + 1 + 1, 0, none⟩ (.slice none 0 0)).setCell ⟨W.heap.size + 1 + 1, 1, none⟩ (.string (⟨#[]⟩ : ByteArray))).heap.size ≤ k) ((W1.setCell ⟨W.heap.size + 1 + 1, 0, none⟩ (.slice none 0 0)).setCell ⟨W.heap.size + 1 + 1, 1, none⟩ (.string (⟨#[]⟩ : ByteArray))) Z → Kd.C (Kd.int .i64) Z AN nums.length nums) ∧
      ∃ S', gotI A c vs w0 vb lb kb keys' S' ((W1.setCell ⟨W.heap.size + 1 + 1, 0, none⟩ (.slice none 0 0)).setCell ⟨W.heap.size + 1 + 1, 1, none⟩ (.string (⟨#[]⟩ : ByteArray))) ∧ Chg S W ((W1.setCell ⟨W.heap.size + 1 + 1, 0, none⟩ (.slice none 0 0)).setCell ⟨W.heap.size + 1 + 1, 1, none⟩ (.string (⟨#[]⟩ : ByteArray))) ∧ ∀ k, S' k → S k ∨ W.heap.size ≤ k from fun hn => by
    have h := HH.out
    unfold cmpP at h
    rw [if_neg hn] at h
    injection h with h
    injection h with h1 h2
    subst h1 h2
    have hb : Below W.heap.size W ((W1.setCell ⟨W.heap.size + 1 + 1, 0, none⟩ (.slice none 0 0)).setCell ⟨W.heap.size + 1 + 1, 1, none⟩ (.string (⟨#[]⟩ : ByteArray))) := (HBW.out.setCell (p := ⟨W.heap.size + 1 + 1, 0, none⟩) (by show W.heap.size ≤ W.heap.size + 1 + 1; omega) _).setCell (p := ⟨W.heap.size + 1 + 1, 1, none⟩) (by show W.heap.size ≤ W.heap.size + 1 + 1; omega) _
    exact ⟨⟨none, 0, rfl, Nat.le_refl _, fun Z _ => Kd.C_nil _ _⟩, S, got_keep HI.out (Chg.of_new hb), Chg.of_new hb, fun k hk => .inl hk⟩)
  cases valid with
  | false =>
    go_wp2
    try simp only [Exit.inBlock, Exit.then]
    refine bodyPost_ret (results_cell_row (d := _) rfl _ _ (W.heap.size + 1 + 1) 31 #[.slice none 0 0, .string (⟨#[]⟩ : ByteArray)] (0, 0) rfl (hb_set (hb_set HR1.out 0 _) 1 _) Try.underlying31 rfl (by kernel_rfl)) rfl ?_
    exact HNO.out (fun h => by cases h.1)
  | true =>
  by_cases e1 : k1 = 1
  case neg =>
    have b1' : (k1 != 1) = true := bne_iff_ne.2 e1
    go_wp2
    try simp only [Exit.inBlock, Exit.then]
    refine bodyPost_ret (results_cell_row (d := _) rfl _ _ (W.heap.size + 1 + 1) 31 #[.slice none 0 0, .string (⟨#[]⟩ : ByteArray)] (0, 0) rfl (hb_set (hb_set HR1.out 0 _) 1 _) Try.underlying31 rfl (by kernel_rfl)) rfl ?_
    exact HNO.out (fun h => e1 h.2.1)
  have b1' : (k1 != 1) = false := bne_eq_false_iff_eq.2 e1
  by_cases e3 : k3 = 0
  case neg =>
    have b3' : (k3 != 0) = true := bne_iff_ne.2 e3
    go_wp2
    try simp only [Exit.inBlock, Exit.then]
    refine bodyPost_ret (results_cell_row (d := _) rfl _ _ (W.heap.size + 1 + 1) 31 #[.slice none 0 0, .string (⟨#[]⟩ : ByteArray)] (0, 0) rfl (hb_set (hb_set HR1.out 0 _) 1 _) Try.underlying31 rfl (by kernel_rfl)) rfl ?_
    exact HNO.out (fun h => e3 h.2.2.1)
  have b3' : (k3 != 0) = false := bne_eq_false_iff_eq.2 e3
  by_cases e2 : k2 < 0
  case pos =>
    have b2' : decide (k2 < 0) = true := decide_eq_true e2
    go_wp2
    try simp only [Exit.inBlock, Exit.then]
    refine bodyPost_ret (results_cell_row (d := _) rfl _ _ (W.heap.size + 1 + 1) 31 #[.slice none 0 0, .string (⟨#[]⟩ : ByteArray)] (0, 0) rfl (hb_set (hb_set HR1.out 0 _) 1 _) Try.underlying31 rfl (by kernel_rfl)) rfl ?_
    exact HNO.out (fun h => by have := h.2.2.2.1; omega)
  have b2' : decide (k2 < 0) = false := decide_eq_false e2
  by_cases e4 : k2 ≥ (qs.length : Int)
  case pos =>
    have b4' : decide (k2 ≥ (qs.length : Int)) = true := decide_eq_true e4
    go_wp2
    try simp only [Exit.inBlock, Exit.then]
    refine bodyPost_ret (results_cell_row (d := _) rfl _ _ (W.heap.size + 1 + 1) 31 #[.slice none 0 0, .string (⟨#[]⟩ : ByteArray)] (0, 0) rfl (hb_set (hb_set HR1.out 0 _) 1 _) Try.underlying31 rfl (by kernel_rfl)) rfl ?_
    exact HNO.out (fun h => by have := h.2.2.2.2; omega)
  have b4' : decide (k2 ≥ (qs.length : Int)) = false := decide_eq_false e4
  have h := HH.out
  unfold cmpP at h
  rw [if_pos (show cmpOk true qs k1 k2 k3 from ⟨rfl, e1, e3, by omega, by omega⟩)] at h
  obtain ⟨⟨n, keys2⟩, hrun, he⟩ := Option.map_eq_some_iff.1 h
  injection he with h1 h2
  subst h1 h2
  have p1 := eq_true (show 0 ≤ k2 by omega)
  have p2 := eq_true (show k2 < (qs.length : Int) by omega)
  obtain ⟨ad, A0, ca, rfl, hca, hq⟩ := HQS.out k2 (by omega) (by omega)
  have q1 := (hq W1 (Chg.of_new HBW.out)).1
  have hn1 : ¬ S (W.heap.size + 1) := fun hk => by have := got_lt HI.out hk; omega
  have hn2 : ¬ S (W.heap.size + 1 + 1) := fun hk => by have := got_lt HI.out hk; omega
  have hkbz : kb < W.heap.size := by obtain ⟨_, _, h2, _⟩ := HI.out; exact lt_of_blk h2
  have HC := Aside0.mk (show ∀ W2, Below W1.heap.size W1 W2 → Calls Try.prog 90 #[.slice A0 (rdq qs k2).length ca, .int .i64 k2, .func (.func 91) #[] #[.pointer (some ⟨W.heap.size + 1, 0, none⟩)]] W2 (fun e w3 => e = .returned (.int .i64 n) ∧ ∃ S3, numI A c vs w0 vb lb kb (W.heap.size + 1) keys2 S3 w3 ∧ Chg S W w3 ∧ Chg S W1 w3 ∧ ∀ k, S3 k → S k ∨ W1.heap.size ≤ k) from fun W2 hb2 =>
    (run_calls (num_oracle (gx := W.heap.size + 1) (lb := lb) (kb := kb) (vb := vb) (c := c) HVS.out) kf A0 ca (rdq qs k2) k2 keys keys2 n S W2 (fun W' hc => (hq W' (((Chg.of_new HBW.out : Chg S W W1).trans (Chg.of_new hb2) (fun _ _ e => e)).trans hc (fun _ _ e => e))).2) hca ⟨got_keep HI.out (Chg.of_new (HBW.out.trans (hb2.mono HBW.out.size))), (hb2.block _ (lt_of_blk HG1.out)).trans HG1.out, by omega, hn1⟩ (fun k hk => Nat.lt_of_lt_of_le (got_lt HI.out hk) (Nat.le_trans HBW.out.size hb2.size)) (by have := HZ1.out; have := hb2.size; omega) hrun).mono (by
      rintro e w3 ⟨rfl, S3, hI3, hc3, hS3⟩
      refine ⟨rfl, S3, hI3, ((Chg.of_new HBW.out : Chg S W W1).trans (Chg.of_new hb2) (fun _ _ e => e)).trans hc3 (fun _ _ e => e), (Chg.of_new hb2 : Chg S W1 W2).trans hc3 (fun _ _ e => e), fun k hk => (hS3 k hk).imp id (fun e => Nat.le_trans hb2.size e)⟩))
  have HQ := Aside0.mk hq
  clear e1 e2 e3 e4 hq hrun h HNO HH r0 r1 f0 f1
  go_upto_region 3 with (fail)
  go_region_held3 (fun w' => w'.cell? ⟨qb, 0, none⟩ = some (.slice (some ad) qs.length cq) ∧ w'.cell? ⟨W.heap.size, 1, none⟩ = some (.int .i64 k2) ∧ w'.cell? (ad.add k2.toNat) = some (.slice A0 (rdq qs k2).length ca))
    (first | exact ⟨y1, x1, q1⟩ | exact ⟨t1, t2, t3⟩)
    ((go_at_call 90
      refine (HC.out _ (by repeat (first | exact Below.refl _ _ | apply below_drew1))).mono ?_
      rintro e w3 ⟨rfl, S3, hI3, hcw3, hc3, hS3⟩
      have t1 := cell_of_blk (hcw3.at HQB.out hSq)
      have t2 : w3.cell? ⟨W.heap.size, 1, none⟩ = some (.int .i64 k2) := (cells_of_blk (hc3.at HK1.out (fun hk => by have := got_lt HI.out hk; omega)) 1).trans rfl
      have t3 := (HQ.out w3 hcw3).1))
  have hz := HZ1.out
  have hr3 := hc3.at HR1.out hn2
  have s0 : w3.cell? ⟨W.heap.size + 1 + 1, 0, none⟩ = some (.slice none 0 0) := (cells_of_blk hr3 0).trans rfl
  have s1 : w3.cell? ⟨W.heap.size + 1 + 1, 1, none⟩ = some (.string (⟨#[]⟩ : ByteArray)) := (cells_of_blk hr3 1).trans rfl
  have f0 := free_of_blk hr3 0
  have f1 := free_of_blk hr3 1
  have HR3 := Aside0.mk hr3
  have HI3 := Aside0.mk hI3
  have HC3 := Aside0.mk hcw3
  have HS3 := Aside0.mk hS3
  have hrz := lt_of_blk hr3
  clear hr3 hI3 hc3 hcw3 hS3 t1 t2 t3
  go_wp2
  try simp only [Exit.inBlock, Exit.then]
  refine bodyPost_ret (results_cell_row (d := _) rfl _ _ (W.heap.size + 1 + 1) 31 #[.slice (some ⟨w3.heap.size, 0, none⟩) 1 1, .string (⟨#[]⟩ : ByteArray)] (0, 0) rfl (hb_alloc (hb_set (hb_set HR3.out 0 _) 1 _)) Try.underlying31 rfl (by kernel_rfl)) rfl ?_
  have hc4 : Chg (fun k => k = W.heap.size + 1 + 1) w3 (((w3.setCell ⟨W.heap.size + 1 + 1, 0, none⟩ (.slice (some ⟨w3.heap.size, 0, none⟩) 1 1)).setCell ⟨W.heap.size + 1 + 1, 1, none⟩ (.string (⟨#[]⟩ : ByteArray))).alloc (.cells #[.int .i64 n] 3)) :=
    ((Chg.set w3 ⟨W.heap.size + 1 + 1, 0, none⟩ (.slice (some ⟨w3.heap.size, 0, none⟩) 1 1) (S := fun k => k = W.heap.size + 1 + 1) rfl).trans (Chg.set _ ⟨W.heap.size + 1 + 1, 1, none⟩ (.string (⟨#[]⟩ : ByteArray)) (S := fun k => k = W.heap.size + 1 + 1) rfl) (fun _ _ e => e)).trans (Chg.alloc _ _) (fun _ _ e => e)
  have hnew : (((w3.setCell ⟨W.heap.size + 1 + 1, 0, none⟩ (.slice (some ⟨w3.heap.size, 0, none⟩) 1 1)).setCell ⟨W.heap.size + 1 + 1, 1, none⟩ (.string (⟨#[]⟩ : ByteArray))).alloc (.cells #[.int .i64 n] 3)).heap[w3.heap.size]? = some (.cells #[.int .i64 n] 3 (0, 0)) := by
    have := hb_new ((w3.setCell ⟨W.heap.size + 1 + 1, 0, none⟩ (.slice (some ⟨w3.heap.size, 0, none⟩) 1 1)).setCell ⟨W.heap.size + 1 + 1, 1, none⟩ (.string (⟨#[]⟩ : ByteArray))) (.cells #[.int .i64 n] 3)
    simpa using this
  have hS3n : ¬ S3 (W.heap.size + 1 + 1) := fun hk => (HS3.out _ hk).elim hn2 (fun e => by omega)
  refine ⟨⟨some ⟨w3.heap.size, 0, none⟩, 1, rfl, Nat.le_refl _, fun Z hZ => one_int (hZ.at hnew (fun e => by have := lt_of_blk hnew; have := HC3.out.size; omega))⟩, S3, got_keep HI3.out.1 (hc4.mono (fun k _ e => by subst e; exact ⟨hS3n, by omega⟩)), HC3.out.trans hc4 (fun j hj e => by omega), fun k hk => (HS3.out k hk).imp id (fun e => by omega)⟩
end

/-- The rows so far: i of them copied. -/
def CpI (l : List (List S160)) (w : World) (vb qb base : Nat) (b : Bool) (pv : Array Value) (V4 : Option Addr) (c4 : Nat) (i : Nat) (W : World) : Prop :=
  W.heap[vb]? = some (.cells #[.bool b] 4 (0, 0)) ∧ W.heap[w.heap.size]? = some (.cells pv 24 (0, 0)) ∧ W.heap[qb]? = some (.cells #[.slice V4 l.length c4] 22 (0, 0)) ∧
    Kd.R (Kd.slice 160 k160) 42 W base (fun k => k ≠ qb) (.slice V4 l.length c4) (l.take i ++ List.replicate (l.length - i) []) ∧ Below w.heap.size w W
theorem set_next {α : Type} (l : List α) (i : Nat) (h : i < l.length) (d x : α) (hx : l[i] = x) : (l.take i ++ List.replicate (l.length - i) d).set i x = l.take (i + 1) ++ List.replicate (l.length - (i + 1)) d := by
  have e1 : l.length - i = (l.length - (i + 1)) + 1 := by omega
  have hl : (l.take i).length = i := by simp; omega
  rw [e1, List.replicate_succ, List.set_append_right _ _ (by omega), hl, Nat.sub_self, List.set_cons_zero, List.take_succ_eq_append_getElem h, hx, List.append_assoc]
  rfl
theorem addg (g n : Nat) : (⟨g, 0, none⟩ : Addr).add n = ⟨g, n, none⟩ := by
  by_cases h : n = 0
  · subst h; simp [Addr.add]
  · simp [Addr.add, h]
theorem info_42 : (Try.prog.info? 42).map (fun i => (i.zero, i.size, i.bytes)) = some (some (.slice none 0 0), 1, 24) := by kernel_rfl
set_option maxRecDepth 100000 in
set_option maxHeartbeats 4000000 in
theorem compile_calls (k : Nat) (a0 : Int) (A : Option Addr) (c : Nat) (l : List (List S160)) (e : Int) (w : World) (hr : Kd.C (Kd.slice 160 k160) w A l.length l) (hc : l.length ≤ c) (hck : querylang_Check.f k a0 l = some e) (hlen : l.length ≤ 11728124029610) (hrows : ∀ q ∈ l, ∃ r, api_QOp_88.f q = some r) :
    Calls Try.prog 17 #[.agg #[.int .i64 a0, .slice A l.length c]] w fun en w' => ∃ b1 qb v, en = .returned (.func (.func 89) #[] #[.pointer (some ⟨b1, 0, none⟩), .pointer (some ⟨qb, 0, none⟩)]) ∧ w'.heap[b1]? = some (.cells #[.bool (e == 0)] 4 (0, 0)) ∧ w'.heap[qb]? = some (.cells #[v] 22 (0, 0)) ∧
      Kd.R (Kd.slice 160 k160) 42 w' w.heap.size (fun _ => True) v l ∧ Below w.heap.size w w' ∧ w.heap.size ≤ b1 ∧ w.heap.size ≤ qb := by
  have HR := Aside0.mk hr
  have HC := Aside0.mk hc
  have HCK := Aside0.mk hck
  have HROWS := Aside0.mk hrows
  have HLEN := Aside0.mk hlen
  clear hr hc hck hrows hlen
  go_enter Try.func17, Try.ntmps17
  go_upto_region 1 with (fail)
  obtain ⟨W1, hW1⟩ : ∃ W1, w.alloc (.cells #[.int .i64 a0, .slice A l.length c] 24) = W1 := ⟨_, rfl⟩
  have hb1 : Below w.heap.size w W1 := by rw [← hW1]; exact below_alloc (Below.refl _ _) _
  have hp1 : W1.heap[w.heap.size]? = some (.cells #[.int .i64 a0, .slice A l.length c] 24 (0, 0)) := by rw [← hW1]; exact hb_new _ _
  rw [hW1]
  clear hW1
  have x0 : W1.cell? ⟨w.heap.size, 0, none⟩ = some (.int .i64 a0) := (cells_of_blk hp1 0).trans rfl
  have x1 : W1.cell? ⟨w.heap.size, 1, none⟩ = some (.slice A l.length c) := (cells_of_blk hp1 1).trans rfl
  have HB1 := Aside0.mk hb1
  have HP1 := Aside0.mk hp1
  clear hb1 hp1
  go_upto_region 2 with (go_at_call 87; refine (querylang_Check.calls k a0 A c l e _ (Kd.C_below HR.out HB1.out) HC.out HCK.out).mono ?_; rintro en w2 ⟨rfl, hb2⟩)
  have hb2w : Below w.heap.size w w2 := HB1.out.trans (hb2.mono HB1.out.size)
  have hp2 := (hb2.block _ (lt_of_blk HP1.out)).trans HP1.out
  obtain ⟨W3, hW3⟩ : ∃ W3, w2.alloc (.cells #[.bool (e == 0)] 4) = W3 := ⟨_, rfl⟩
  have hb3 : Below w.heap.size w W3 := by rw [← hW3]; exact below_alloc hb2w _
  have hv3 : W3.heap[w2.heap.size]? = some (.cells #[.bool (e == 0)] 4 (0, 0)) := by rw [← hW3]; exact hb_new _ _
  have hp3 : W3.heap[w.heap.size]? = some (.cells #[.int .i64 a0, .slice A l.length c] 24 (0, 0)) := by rw [← hW3]; exact hb_alloc hp2
  have hz2 := hb2w.size
  rw [hW3]
  clear hW3 hp2 x0 x1 hb2
  have x1 : W3.cell? ⟨w.heap.size, 1, none⟩ = some (.slice A l.length c) := (cells_of_blk hp3 1).trans rfl
  have HB3 := Aside0.mk hb3
  have HV3 := Aside0.mk hv3
  have HP3 := Aside0.mk hp3
  have HB2W := Aside0.mk hb2w
  clear hb3 hv3 hp3 hb2w
  go_upto_region 3 with (first | ((with_reducible refine gate_dst (N := 13) rfl ?_); refine Kd.R_make (Kd.slice 160 k160) (w0 := W3) W3.heap.size 42 rfl (N := 13) rfl 22 _ _ rfl (l.length : Int) rfl rfl Try.underlying22 (.slice none 0 0) 24 info_42 rfl (by decide) (by omega) [] (ok := fun _ => True) (okp := fun _ => True) ⟨_, rfl, Kd.R_nil _ _ _ _ _⟩ (fun _ hk => hk) trivial (by omega) (by have := HLEN.out; omega) (Below.refl _ _) (Nat.le_refl _) ?_; intro v4 w4 ho hb hg hnew; (obtain ⟨V4, c4, hv4⟩ := Kd.R_slice ho); (rw [List.length_replicate, Int.toNat_natCast] at hv4); subst hv4; have HO4 := Aside0.mk ho; have HB4 := Aside0.mk hb; have HN4 := Aside0.mk hnew; clear ho hb hg hnew x1))
  have hz3 := HB3.out.size
  have hz4 := HB4.out.size
  obtain ⟨W5, hW5⟩ : ∃ W5, w4.alloc (.cells #[.slice V4 l.length c4] 22) = W5 := ⟨_, rfl⟩
  have hq5 : W5.heap[w4.heap.size]? = some (.cells #[.slice V4 l.length c4] 22 (0, 0)) := by rw [← hW5]; exact hb_new _ _
  have hb5 : Below W3.heap.size W3 W5 := by rw [← hW5]; exact below_alloc HB4.out _
  have hr5 : Kd.R (Kd.slice 160 k160) 42 W5 W3.heap.size (fun k => k ≠ w4.heap.size) (.slice V4 l.length c4) (l.take 0 ++ List.replicate (l.length - 0) []) := by
    rw [← hW5]
    have h1 := Kd.R_mono (Kd.R_bound HO4.out) (ok' := fun k => k ≠ w4.heap.size) (fun k hk => by have := hk.2.2.1; omega)
    simp only [Int.toNat_natCast] at h1
    exact Kd.R_below h1 (below_alloc (Below.refl _ _) _)
  rw [hW5]
  clear hW5
  have HI5 := Aside0.mk (show CpI l w w2.heap.size w4.heap.size W3.heap.size (e == 0) #[.int .i64 a0, .slice A l.length c] V4 c4 0 W5 from
    ⟨(hb5.block _ (lt_of_blk HV3.out)).trans HV3.out, (hb5.block _ (lt_of_blk HP3.out)).trans HP3.out, hq5, hr5, HB3.out.trans (hb5.mono hz3)⟩)
  have x1 : W5.cell? ⟨w.heap.size, 1, none⟩ = some (.slice A l.length c) := (cells_of_blk ((hb5.block _ (lt_of_blk HP3.out)).trans HP3.out) 1).trans rfl
  clear hq5 hb5 hr5
  go_wp2
  go_loopg [17] l.length (fun kq v17 W => ∃ i : Nat, v17 = .int .i64 (i : Int) ∧ kq + i = l.length ∧ Aside0 (CpI l w w2.heap.size w4.heap.size W3.heap.size (e == 0) #[.int .i64 a0, .slice A l.length c] V4 c4 i W))
  case atStart => exact ⟨0, rfl, by omega, HI5⟩
  case round =>
    obtain ⟨i, rfl, hi, hR⟩ := hrel
    cases gk with
    | zero =>
      obtain rfl : i = l.length := by omega
      have b0 : decide ((l.length : Int) < (l.length : Int)) = false := by simp
      go_wp2
      go_ret
      obtain ⟨h1, h2, h3, h4, h5⟩ := hR.out
      rw [List.take_length, Nat.sub_self, List.replicate_zero, List.append_nil] at h4
      exact ⟨_, _, _, rfl, h1, h3, Kd.R_lower (Kd.R_mono h4 (fun _ _ => trivial)) hz3, h5, hz2, by omega⟩
    | succ k1 =>
      have hlt : i < l.length := by omega
      have b0 : decide ((i : Int) < (l.length : Int)) = true := by simp; omega
      obtain ⟨h1, h2, h3, h4, h5⟩ := hR.out
      obtain ⟨ad, A0, ca, hA, xr, hca, hCr⟩ := at_q (Kd.C_below HR.out h5) (i : Int) (by omega) (by omega)
      subst hA
      simp only [Int.toNat_natCast] at xr
      have hlen : (l.take i ++ List.replicate (l.length - i) ([] : List S160)).length = l.length := by simp; omega
      obtain ⟨g, cap, he, hg1, hg2, cells, hcells⟩ := Kd.R_form h4 (by omega)
      injection he with e1 e2 e3
      subst e1 e3
      obtain ⟨r, hr⟩ := HROWS.out (rdq l (i : Int)) (by rw [show rdq l (i : Int) = l[i] by simp [rdq, List.getD_eq_getElem?_getD, hlt]]; exact List.getElem_mem _)
      have hrr : r = rdq l (i : Int) := by
        unfold api_QOp_88.f at hr
        split at hr
        · injection hr with hr; rw [← hr]; rfl
        · cases hr
      subst hrr
      obtain ⟨adg, cg, hag, hcg, _, hcell⟩ := Kd.C_get (Kd.R_reads' h4).2.2 ([] : List S160) (i : Int) (by omega) (by omega)
      injection hag with hag
      subst hag
      obtain ⟨old, rfl⟩ : ∃ old, cg = [old] := by cases cg with | nil => cases hcg | cons a t => cases t with | nil => exact ⟨a, rfl⟩ | cons _ _ => cases hcg
      have p1 := eq_true (show (i : Int) < (l.length : Int) by omega)
      have p2 := eq_true (show (0 : Int) ≤ (i : Int) by omega)
      have y0 := cell_of_blk h3
      have H4 := Aside0.mk h4
      have H5 := Aside0.mk h5
      have H1 := Aside0.mk h1
      have H2 := Aside0.mk h2
      have H3 := Aside0.mk h3
      have HCR := Aside0.mk hCr
      have HCA := Aside0.mk hca
      have HR1 := Aside0.mk hr
      have HCELL := Aside0.mk hcell
      have HLN := Aside0.mk hlen
      clear h1 h2 h3 h4 h5 hCr hca hr hcell hlen e2 hcg
      go_upto_region 6 with (fail)
      have hnew : ∀ W2, Below wr.heap.size wr W2 → W2.cell? ⟨w4.heap.size, 0, none⟩ = some (.slice (some ⟨g, 0, none⟩) l.length c4) := fun W2 h2 => (h2.cell (World.block_lt_of_cell? _ _ y0)).trans y0
      have HNEW := Aside0.mk hnew
      clear hnew y0 xr
      refine start_ (n := 6) (S := fun w' => w'.cell? ⟨w4.heap.size, 0, none⟩ = some (.slice (some ⟨g, 0, none⟩) l.length c4)) (ds := [5]) #[false, false, false, false, false, false] (by kernel_rfl) rfl rfl (HNEW.out _ (below_drew1 (Below.refl _ _))) (fun hHeld => ?_)
      refine take_ (i := 0) (N := some 22) (v := ?_) (a' := ?_) #[true, false, false, false, false, false] rfl rfl (by kernel_rfl) (fun _ _ _ h => h) (Or.inl ⟨by rfl, ?_⟩) hHeld ?_ ?_
      rotate_left
      · intro w' s0_
        go_simp
        with_reducible rfl
      rotate_left
      · simp only [Act.put, List.setIfInBounds_toArray, List.set_cons_zero, List.set_cons_succ, i64_w, i32_w]
        rfl
      refine pure_ (i := 1) (N := some 23) (v := ?_) (a' := ?_) #[true, true, false, false, false, false] rfl rfl (by kernel_rfl) (fun _ _ _ h => h) (Or.inl ⟨by rfl, ?_⟩) ?_ ?_
      rotate_left
      · intro w'
        go_simp
        with_reducible rfl
      rotate_left
      · simp only [Act.put, List.setIfInBounds_toArray, List.set_cons_zero, List.set_cons_succ, i64_w, i32_w]
        rfl
      refine pure_ (i := 2) (N := some 24) (v := ?_) (a' := ?_) #[true, true, true, false, false, false] rfl rfl (by kernel_rfl) (fun _ _ _ h => h) (Or.inl ⟨by rfl, ?_⟩) ?_ ?_
      rotate_left
      · intro w'
        go_simp
        with_reducible rfl
      rotate_left
      · simp only [Act.put, List.setIfInBounds_toArray, List.set_cons_zero, List.set_cons_succ, i64_w, i32_w]
        rfl
      refine one_ (i := 3) (N := some 25) #[true, true, true, true, false, false] rfl rfl (by kernel_rfl) (by decide) (fun K hK => ?_)
      refine goes_ Try.func88 (by kernel_rfl) rfl #[.slice A0 (rdq l (i : Int)).length ca] (by rfl) rfl rfl (by (try simp only [List.map_toArray, List.map_cons, List.map_nil]); first | done | rfl) ?_
      refine (api_QOp_88.calls A0 ca (rdq l (i : Int)) (rdq l (i : Int)) _ (Kd.C_below HCR.out (below_drew1 (Below.refl _ _))) HCA.out HR1.out).mono ?_
      rintro en w7 ⟨v0, rfl, ho7, hb7⟩
      obtain ⟨V7, c7, hv0⟩ := Kd.R_slice ho7
      subst hv0
      refine ⟨_, rfl, ?_⟩
      have hbb : Below wr.heap.size wr w7 := (below_drew1 (Below.refl _ _)).trans hb7
      have HO7 := Aside0.mk ho7
      have HB7 := Aside0.mk hbb
      clear hb7 ho7 hbb
      refine hK.out _ _ (HNEW.out _ HB7.out) (fun hHeld => ?_)
      clear hK K
      refine norm_ (a' := ?_) ?_ ?_
      rotate_left
      · show Act.put _ (some 25) _ = _
        simp only [Act.put, List.setIfInBounds_toArray, List.set_cons_zero, List.set_cons_succ, i64_w, i32_w]
        rfl
      refine pure_ (i := 4) (N := some 26) (v := ?_) (a' := ?_) #[true, true, true, true, true, false] rfl rfl (by kernel_rfl) (fun _ _ _ h => h) (Or.inl ⟨by rfl, ?_⟩) ?_ ?_
      rotate_left
      · intro w'
        go_simp
        with_reducible rfl
      rotate_left
      · simp only [Act.put, List.setIfInBounds_toArray, List.set_cons_zero, List.set_cons_succ, i64_w, i32_w]
        rfl
      refine last_ (i := 5) (N := none) #[true, true, true, true, true, true] rfl rfl (by kernel_rfl) (by decide) (fun K hK => ?_)
      have hcells7 := (HB7.out.block _ hg2).trans hcells
      have s0 : w7.cell? ⟨g, i, none⟩ = some old := by
        have h0 := HCELL.out 0 old rfl
        have e0 : (⟨g, 0, none⟩ : Addr).add ((i : Int).toNat * (Kd.slice 160 k160).sz + 0) = ⟨g, i, none⟩ := by
          have e7 : (i : Int).toNat * (Kd.slice 160 k160).sz + 0 = i := by show (i : Int).toNat * 1 + 0 = i; omega
          rw [e7]
          by_cases h : i = 0
          · subst h; simp [Addr.add]
          · simp [Addr.add, h]
        rw [e0] at h0
        exact (HB7.out.cell (World.block_lt_of_cell? _ _ h0)).trans h0
      have f0 := free_of_blk hcells7 i
      refine skip_ (w1 := ?_) (by rfl) rfl ?_ ?_
      rotate_left
      · go_simp
        rfl
      refine hK.out _ _ (done_ (by kernel_rfl) ?_)
      clear hK K s0 f0
      have hqlt := lt_of_blk H3.out
      have hwz := HB7.out.size
      have hd : wr.drew.heap.size = wr.heap.size := rfl
      have hrow : Kd.R k160 160 w7 W3.heap.size (fun k => wr.heap.size ≤ k) (.slice V7 (rdq l (i : Int)).length c7) (rdq l (i : Int)) := Kd.R_lower (Kd.R_mono (Kd.R_bound HO7.out) (fun k hk => hk.2.1)) (by show W3.heap.size ≤ wr.heap.size; omega)
      have e7 : (i : Int).toNat * (Kd.slice 160 k160).sz + 0 = i := by show (i : Int).toNat * 1 + 0 = i; omega
      have hseg := (Kd.R_seg (Kd.R_below H4.out HB7.out) (i : Int) (by omega) (by omega) (c := [old]) (seg := [.slice V7 (rdq l (i : Int)).length c7]) (j := 0) rfl (fun j u hj => by
        have h0 := HCELL.out j u hj
        rw [addg] at h0
        exact (HB7.out.cell (World.block_lt_of_cell? _ _ h0)).trans h0) (by show 0 + 1 ≤ 1; omega) (x' := rdq l (i : Int)) (okp := fun k => wr.heap.size ≤ k) ⟨_, rfl, hrow⟩ (fun k hk => ⟨by omega, by omega⟩)).1
      rw [e7] at hseg
      have hget : rdq l (i : Int) = l[i] := by simp [rdq, List.getD_eq_getElem?_getD, hlt]
      rw [Int.toNat_natCast, set_next l i hlt [] _ hget.symm] at hseg
      obtain ⟨w8, hw8⟩ : ∃ w8, w7.setCell ⟨g, i, none⟩ (.slice V7 (rdq l (i : Int)).length c7) = w8 := ⟨_, rfl⟩
      have h8 : Kd.R (Kd.slice 160 k160) 42 w8 W3.heap.size (fun k => k ≠ w4.heap.size) (.slice (some ⟨g, 0, none⟩) l.length c4) (l.take (i + 1) ++ List.replicate (l.length - (i + 1)) []) := by rw [← hw8]; exact hseg
      have hgq : g ≠ w4.heap.size := H4.out.1 g rfl
      have hv3 := lt_of_blk HV3.out
      have stay : ∀ {k : Nat} {o : Obj}, wr.heap[k]? = some o → k ≠ g → w8.heap[k]? = some o := fun {k o} h1 h2 => by
        rw [← hw8]
        exact hb_far ((HB7.out.block _ (lt_of_blk h1)).trans h1) (by show k ≠ g; exact h2) _
      have hb8 : Below w.heap.size w w8 := by
        rw [← hw8]
        exact (H5.out.trans (HB7.out.mono H5.out.size)).setCell (p := ⟨g, i, none⟩) (by show w.heap.size ≤ g; omega) _
      have H8 := Aside0.mk (show CpI l w w2.heap.size w4.heap.size W3.heap.size (e == 0) #[.int .i64 a0, .slice (some ad) l.length c] (some ⟨g, 0, none⟩) c4 (i + 1) w8 from ⟨stay H1.out (by omega), stay H2.out (by omega), stay H3.out (fun e => hgq e.symm), h8, hb8⟩)
      rw [hw8]
      have hw : wrap64 ((i : Int) + 1) = ((i + 1 : Nat) : Int) := by have := HLEN.out; unfold wrap64; omega
      clear hw8 h8 hseg hrow hgq stay hb8 hget
      go_wp2
      go_roundg k1
      case measure => omega
      case rel => exact ⟨i + 1, by first | rfl | simp [hw], by omega, H8⟩

/-- What is told of the function that Exec is handed. -/
structure OracleR (B gf : Nat) (caps : Array Value) {σ : Type} (G : σ → Int → Int → Option (Int × Bool × σ)) (I : σ → (Nat → Prop) → World → Prop) : Prop where
  lt : ∀ {s S W} {k : Nat}, I s S W → S k → k < W.heap.size
  keep : ∀ {s S W W'}, I s S W → Chg (fun k => ¬ S k ∧ B ≤ k) W W' → I s S W'
  enters : ∀ args (w : World), (callFunc gf args).run Try.prog w = .ok (.enter gf args) w
  goes : ∀ {s S W k1 k2 n b s'}, I s S W → G s k1 k2 = some (n, b, s') →
    Calls Try.prog gf (#[.int .i64 k1, .int .i64 k2] ++ caps) W fun e w' => e = .returned (.tuple #[.int .i64 n, .bool b]) ∧ ∃ S', I s' S' w' ∧ Chg S W w' ∧ ∀ k, S' k → S k ∨ W.heap.size ≤ k
/-- What an instruction asks for, or what it comes to, and how many it takes. -/
def selR (own : Int) (op : S160) (x y : Int) : Option (Int × Int × Int × Int) :=
  if op.f0 = 1 then (glossatorref3_Mod.f op.f1 1000003).map (fun r => (-1, 0, r, 0))
  else if op.f0 = 2 then some (0, op.f1, 0, 0)
  else if op.f0 = 3 then some (1, op.f1, 0, 0)
  else if op.f0 = 4 then (if own = 0 then none else some (1, Int.tmod y own, 0, 1))
  else if op.f0 = 5 then (if y = 0 then some (1, op.f2, 0, 1) else some (1, op.f1, 0, 1))
  else if op.f0 = 6 then (glossatorref3_Mod.f (wrap64 (x + y)) 1000003).map (fun r => (-1, 0, r, 2))
  else if op.f0 = 7 then (glossatorref3_Mod.f (wrap64 (x - y)) 1000003).map (fun r => (-1, 0, r, 2))
  else if op.f0 = 8 then (glossatorref3_Mod.f (wrap64 (x * y)) 1000003).map (fun r => (-1, 0, r, 2))
  else if op.f0 = 9 then some (-1, 0, mn x y, 2)
  else if op.f0 = 10 then some (-1, 0, mx x y, 2)
  else some (-1, 0, if x < y then 1 else 0, 2)
theorem mod_some {a m r : Int} {k : Int → Int × Int × Int × Int} {q : Int × Int × Int × Int} (h : (glossatorref3_Mod.f a m).map k = some q) : ∃ r, q = k r := by
  obtain ⟨r, _, rfl⟩ := Option.map_eq_some_iff.1 h
  exact ⟨r, rfl⟩
theorem selR_pops {own : Int} {op : S160} {x y kind idx res pops : Int} (h : selR own op x y = some (kind, idx, res, pops)) : 0 ≤ pops ∧ pops ≤ 2 := by
  unfold selR at h
  repeat' split at h
  all_goals first
    | (obtain ⟨r, _, he⟩ := Option.map_eq_some_iff.1 h; injection he with _ he; injection he with _ he; injection he with _ he; omega)
    | (injection h with h; injection h with _ h; injection h with _ h; injection h with _ h; omega)
    | cases h
theorem stack_set (zs : List Int) (k : Nat) (n : Int) : ((zs.map (Value.int .i64)).toArray).setIfInBounds k (.int .i64 n) = ((zs.set k n).map (Value.int .i64)).toArray := by
  rw [List.setIfInBounds_toArray, List.map_set]
def topR (zs : List Int) (size j : Nat) : Int := if j < size then rd zs ((size - 1 - j : Nat) : Int) else 0
/-- One instruction: the stack (24 cells), how many stand on it. none: stopped, or out of the cells. -/
def stepR {σ : Type} (G : σ → Int → Int → Option (Int × Bool × σ)) (own : Int) (op : S160) (zs : List Int) (size : Nat) (s : σ) : Option (Option (List Int × Nat) × σ) :=
  (selR own op (topR zs size 1) (topR zs size 0)).bind fun q =>
  (if q.1 ≥ 0 then G s q.1 q.2.1 else some (q.2.2.1, true, s)).bind fun r =>
  if r.2.1 = true then (if 0 ≤ (size : Int) - q.2.2.2 ∧ (size : Int) - q.2.2.2 < 24 then some (some (zs.set ((size : Int) - q.2.2.2).toNat r.1, ((size : Int) - q.2.2.2).toNat + 1), r.2.2) else none) else some (none, r.2.2)
def execR {σ : Type} (G : σ → Int → Int → Option (Int × Bool × σ)) (own : Int) : List S160 → List Int → Nat → σ → Option (Int × Bool × σ)
  | [], zs, size, s => some (rd zs 0, true, s)
  | op :: t, zs, size, s => (stepR G own op zs size s).bind fun p => match p.1 with
    | none => some (0, false, p.2)
    | some q => execR G own t q.1 q.2 p.2
def zeros24 : List Int := [0, 0, 0, 0, 0, 0, 0, 0, 0, 0, 0, 0, 0, 0, 0, 0, 0, 0, 0, 0, 0, 0, 0, 0]
/-- The stack's block. -/
def stackObj (zs : List Int) : Obj := .cells (zs.map (Value.int .i64)).toArray 168 (0, 0)
def ExecI {σ : Type} (G : σ → Int → Int → Option (Int × Bool × σ)) (I : σ → (Nat → Prop) → World → Prop) (own : Int) (ops : List S160) (r : Int × Bool × σ) (S : Nat → Prop) (w : World) (i size : Nat) (W : World) : Prop :=
  ∃ (zs : List Int) (s1 : σ) (S1 : Nat → Prop), execR G own (ops.drop i) zs size s1 = some r ∧ zs.length = 24 ∧ size ≤ 24 ∧ W.heap[w.heap.size]? = some (stackObj zs) ∧
    I s1 S1 W ∧ Chg S w W ∧ w.heap.size < W.heap.size ∧ (∀ k, S1 k → S k ∨ w.heap.size < k)
def ExecPost {σ : Type} (I : σ → (Nat → Prop) → World → Prop) (r : Int × Bool × σ) (S : Nat → Prop) (w : World) (e : Ending) (w' : World) : Prop :=
  e = .returned (.tuple #[.int .i64 r.1, .bool r.2.1]) ∧ ∃ S', I r.2.2 S' w' ∧ Chg S w w' ∧ ∀ k, S' k → S k ∨ w.heap.size ≤ k
set_option maxHeartbeats 8000000 in
set_option maxRecDepth 100000 in
theorem exec_calls {σ : Type} {B gf : Nat} {caps : Array Value} {G : σ → Int → Int → Option (Int × Bool × σ)} {I : σ → (Nat → Prop) → World → Prop} (O : OracleR B gf caps G I) (A0 : Option Addr) (c0 : Nat) (ops : List S160) (own : Int) (s : σ) (r : Int × Bool × σ) (S : Nat → Prop) (w : World)
    (hops : ∀ W', Chg S w W' → Kd.C k160 W' A0 ops.length ops) (hc0 : ops.length ≤ c0) (hI : I s S w) (hS0 : ∀ k, S k → k < w.heap.size) (hB : B ≤ w.heap.size) (h : execR G own ops zeros24 0 s = some r) :
    Calls Try.prog 21 #[.slice A0 ops.length c0, .int .i64 own, .func (.func gf) #[] caps] w (ExecPost I r S w) := by
  have hlen : ops.length ≤ 9223372036854775807 := (hops w (Chg.refl _ _)).2.1
  have HOPS := Aside0.mk hops
  have HI := Aside0.mk hI
  have HS0 := Aside0.mk hS0
  have HBB := Aside0.mk hB
  have HO := Aside0.mk O
  have H := Aside0.mk h
  have HC := Aside0.mk hc0
  clear hops hI O h hc0 hS0 hB
  go_enter Try.func21, Try.ntmps21
  go_wp2
  go_loopg [9, 22] ops.length (fun kq v9 v22 W => ∃ (i size : Nat), v9 = .int .i64 (size : Int) ∧ v22 = .int .i64 (i : Int) ∧ kq + i = ops.length ∧ Aside0 (ExecI G I own ops r S w i size W))
  case atStart =>
    refine ⟨0, 0, rfl, rfl, by omega, ⟨zeros24, s, S, H.out, rfl, by omega, ?_, HO.out.keep HI.out (Chg.alloc _ _), Chg.alloc _ _, by simp, fun k hk => .inl hk⟩⟩
    exact hb_new _ _
  case round =>
    obtain ⟨i, size, rfl, rfl, hi, hR⟩ := hrel
    cases gk with
    | zero =>
      obtain rfl : i = ops.length := by omega
      obtain ⟨zs, s1, S1, hrun, hz, hsize, hb, hI, hch, hsz, hS⟩ := hR.out
      rw [List.drop_length] at hrun
      injection hrun with hrun
      subst hrun
      have hc0 : wr.cell? ⟨w.heap.size, 0, none⟩ = some (.int .i64 (rd zs 0)) := by
        rw [cells_of_blk hb]
        have : 0 < zs.length := by omega
        simp [rd, List.getD_eq_getElem?_getD, this]
      have HI1 := Aside0.mk hI
      have HCH := Aside0.mk hch
      have HS := Aside0.mk hS
      clear hI hch hS hb hi hR H HOPS HI HO
      go_wp2
      go_ret2
      exact ⟨rfl, S1, HI1.out, HCH.out, fun k hk => (HS.out k hk).imp_right Nat.le_of_lt⟩
    | succ k1 =>
      have hlt : i < ops.length := by omega
      obtain ⟨zs, s1, S1, hrun, hz, hsize, hb, hI, hch, hsz, hS⟩ := hR.out
      rw [List.drop_eq_getElem_cons hlt, execR] at hrun
      obtain ⟨⟨nx, s2⟩, hstep, hrun2⟩ := Option.bind_eq_some_iff.1 hrun
      obtain ⟨ad0, hA0, o0, o1, o2⟩ := at_T160 (HOPS.out wr hch) (i : Int) (by omega) (by omega)
      subst hA0
      have hop : rd_T160 ops (i : Int) = ops[i] := by simp [rd_T160, List.getD_eq_getElem?_getD, hlt]
      rw [hop, Int.toNat_natCast] at o0 o1 o2
      obtain ⟨op, hopn⟩ : ∃ op, ops[i] = op := ⟨_, rfl⟩
      rw [hopn] at o0 o1 o2 hstep
      clear hop hopn
      have p1 : (0 ≤ (i : Int)) = True := eq_true (by omega)
      have p2 : ((i : Int) < (ops.length : Int)) = True := eq_true (by omega)
      unfold stepR at hstep
      obtain ⟨⟨kind, idx, res, pops⟩, hsel, hstep⟩ := Option.bind_eq_some_iff.1 hstep
      have HI1 := Aside0.mk hI
      have HCH := Aside0.mk hch
      have HS := Aside0.mk hS
      have HR := Aside0.mk hrun2
      have HST := Aside0.mk hstep
      have HSEL := Aside0.mk hsel
      have HB := Aside0.mk hb
      have HZ := Aside0.mk hz
      clear hI hch hS hb hR H HI hrun hrun2 hstep hsel hz
      go_upto_region 7 with (fail)
      have hal : Chg (fun _ => False) wr (wr.alloc (.cells #[.int .i64 op.f0, .int .i64 op.f1, .int .i64 op.f2] 160)) := Chg.alloc _ _
      obtain ⟨wa, hwc⟩ : ∃ wa, wa = wr.alloc (.cells #[.int .i64 op.f0, .int .i64 op.f1, .int .i64 op.f2] 160) := ⟨_, rfl⟩
      have hob : wa.heap[wr.heap.size]? = some (.cells #[.int .i64 op.f0, .int .i64 op.f1, .int .i64 op.f2] 160 (0, 0)) := by rw [hwc]; exact hb_new _ _
      rw [← hwc] at hal ⊢
      have HAL := Aside0.mk hal
      have HOB := Aside0.mk hob
      have HZB := Aside0.mk (hal.at HB.out (fun h => h))
      clear hal hob hwc o0 o1 o2 p1 p2
      have zc : ∀ j : Nat, j < 24 → wa.cell? ⟨w.heap.size, j, none⟩ = some (.int .i64 (rd zs (j : Int))) := by
        intro j hj
        rw [cells_of_blk HZB.out]
        have hl := HZ.out
        have : j < zs.length := by omega
        simp [rd, List.getD_eq_getElem?_getD, this]
      have HZC := Aside0.mk zc
      clear zc
      have y1 : 0 < size → wa.cell? ⟨w.heap.size, size - 1, none⟩ = some (.int .i64 (topR zs size 0)) := by
        intro h
        rw [HZC.out (size - 1) (by omega)]
        unfold topR
        rw [if_pos h]
        rfl
      have y2 : 1 < size → wa.cell? ⟨w.heap.size, size - 2, none⟩ = some (.int .i64 (topR zs size 1)) := by
        intro h
        rw [HZC.out (size - 2) (by omega)]
        unfold topR
        rw [if_pos h]
        rfl
      go_upto_if 27 with (fail)
      go_cut [13] (fun v13 wx => v13 = .int .i64 (topR zs size 0) ∧ wx = wa)
      case first =>
        by_cases c : 0 < size
        · have h1 := y1 c
          have b : decide ((size : Int) > 0) = true := by simp; omega
          have b2 : (size : Int) - 1 < 24 := by omega
          have b3 : 0 ≤ (size : Int) - 1 := by omega
          have b4 : ((size : Int) - 1).toNat = size - 1 := by omega
          go_wp2
          go_meet
          case rel => exact ⟨rfl, rfl⟩
        · have b : decide ((size : Int) > 0) = false := by simp; omega
          go_wp2
          go_meet
          case rel => exact ⟨by unfold topR; rw [if_neg c], rfl⟩
      case rest =>
        obtain ⟨rfl, hwx⟩ := hcut
        have hwx2 := hwx.symm
        subst hwx2
        go_upto_if 33 with (fail)
        go_cut [12] (fun v12 wx => v12 = .int .i64 (topR zs size 1) ∧ wx = wa)
        case first =>
          by_cases c : 1 < size
          · have h1 := y2 c
            have b : decide ((size : Int) > 1) = true := by simp; omega
            have b2 : (size : Int) - 2 < 24 := by omega
            have b3 : 0 ≤ (size : Int) - 2 := by omega
            have b4 : ((size : Int) - 2).toNat = size - 2 := by omega
            go_wp2
            go_meet
            case rel => exact ⟨rfl, rfl⟩
          · have b : decide ((size : Int) > 1) = false := by simp; omega
            go_wp2
            go_meet
            case rel => exact ⟨by unfold topR; rw [if_neg c], rfl⟩
        case rest =>
          obtain ⟨rfl, hwx⟩ := hcut
          have hwx2 := hwx.symm
          subst hwx2
          have q0 : wa.cell? ⟨wr.heap.size, 0, none⟩ = some (.int .i64 op.f0) := (cells_of_blk HOB.out 0).trans rfl
          have q1 : wa.cell? ⟨wr.heap.size, 1, none⟩ = some (.int .i64 op.f1) := (cells_of_blk HOB.out 1).trans rfl
          have q2 : wa.cell? ⟨wr.heap.size, 2, none⟩ = some (.int .i64 op.f2) := (cells_of_blk HOB.out 2).trans rfl
          clear y1 y2
          obtain ⟨x, hx⟩ : ∃ x, topR zs size 1 = x := ⟨_, rfl⟩
          obtain ⟨y, hy⟩ : ∃ y, topR zs size 0 = y := ⟨_, rfl⟩
          rw [hx, hy] at HSEL
          rw [hx, hy]
          clear hx hy hstep
          go_upto_block 2 with (fail)
          go_cut [14, 15, 16, 17] (fun v14 v15 v16 v17 wx => v14 = .int .i64 kind ∧ v15 = .int .i64 idx ∧ v16 = .int .i64 res ∧ v17 = .int .i64 pops ∧ Aside0 (Drawn0 wa wx))
          case first =>
            unfold selR at HSEL
            by_cases c1 : op.f0 = 1
            · have h := HSEL.out
              rw [if_pos c1] at h
              obtain ⟨m, hm, he⟩ := Option.map_eq_some_iff.1 h
              simp only [Prod.mk.injEq] at he
              obtain ⟨rfl, rfl, rfl, rfl⟩ := he
              have HM := Aside0.mk hm
              have b1 : (op.f0 == 1) = true := by simp [c1]
              clear h hm HSEL c1
              go_wp2_with (go_at_call 16; refine (glossatorref3_Mod.calls _ _ m _ HM.out).mono ?_; rintro e w4 ⟨rfl, ⟨nd, rfl⟩⟩)
              go_meet
              case rel => exact ⟨rfl, rfl, rfl, rfl, ⟨⟨_, rfl⟩⟩⟩
            · have b1 : (op.f0 == 1) = false := by simp [c1]
              by_cases c2 : op.f0 = 2
              · have h := HSEL.out
                rw [if_neg c1, if_pos c2] at h
                have b2 : (op.f0 == 2) = true := by simp [c2]
                injection h with h
                simp only [Prod.mk.injEq] at h
                obtain ⟨rfl, rfl, rfl, rfl⟩ := h
                clear HSEL c1 c2
                go_wp2
                go_quiet (fail)
                go_wp2
                go_meet
                case rel => exact ⟨rfl, rfl, rfl, rfl, ⟨by first | exact ⟨0, rfl⟩ | exact ⟨_, rfl⟩⟩⟩
              · have b2 : (op.f0 == 2) = false := by simp [c2]
                by_cases c3 : op.f0 = 3
                · have h := HSEL.out
                  rw [if_neg c1, if_neg c2, if_pos c3] at h
                  have b3 : (op.f0 == 3) = true := by simp [c3]
                  injection h with h
                  simp only [Prod.mk.injEq] at h
                  obtain ⟨rfl, rfl, rfl, rfl⟩ := h
                  clear HSEL c1 c2 c3
                  go_wp2
                  go_quiet (fail)
                  go_wp2
                  go_meet
                  case rel => exact ⟨rfl, rfl, rfl, rfl, ⟨by first | exact ⟨0, rfl⟩ | exact ⟨_, rfl⟩⟩⟩
                · have b3 : (op.f0 == 3) = false := by simp [c3]
                  by_cases c4 : op.f0 = 4
                  · have h := HSEL.out
                    rw [if_neg c1, if_neg c2, if_neg c3, if_pos c4] at h
                    by_cases c0 : own = 0
                    · rw [if_pos c0] at h; cases h
                    · rw [if_neg c0] at h
                      have b0 : (own == 0) = false := by simp [c0]
                      have b4 : (op.f0 == 4) = true := by simp [c4]
                      injection h with h
                      simp only [Prod.mk.injEq] at h
                      obtain ⟨rfl, rfl, rfl, rfl⟩ := h
                      clear HSEL c1 c2 c3 c4
                      go_wp2
                      go_quiet (fail)
                      go_wp2
                      go_meet
                      case rel => exact ⟨rfl, rfl, rfl, rfl, ⟨by first | exact ⟨0, rfl⟩ | exact ⟨_, rfl⟩⟩⟩
                  · have b4 : (op.f0 == 4) = false := by simp [c4]
                    by_cases c5 : op.f0 = 5
                    · have h := HSEL.out
                      rw [if_neg c1, if_neg c2, if_neg c3, if_neg c4, if_pos c5] at h
                      by_cases cy : y = 0
                      · rw [if_pos cy] at h
                        have by0 : (y == 0) = true := by simp [cy]
                        clear cy
                        have b5 : (op.f0 == 5) = true := by simp [c5]
                        injection h with h
                        simp only [Prod.mk.injEq] at h
                        obtain ⟨rfl, rfl, rfl, rfl⟩ := h
                        clear HSEL c1 c2 c3 c4 c5
                        go_wp2
                        go_quiet (fail)
                        go_wp2
                        go_meet
                        case rel => exact ⟨rfl, rfl, rfl, rfl, ⟨by first | exact ⟨0, rfl⟩ | exact ⟨_, rfl⟩⟩⟩
                      · rw [if_neg cy] at h
                        have by0 : (y == 0) = false := by simp [cy]
                        clear cy
                        have b5 : (op.f0 == 5) = true := by simp [c5]
                        injection h with h
                        simp only [Prod.mk.injEq] at h
                        obtain ⟨rfl, rfl, rfl, rfl⟩ := h
                        clear HSEL c1 c2 c3 c4 c5
                        go_wp2
                        go_quiet (fail)
                        go_wp2
                        go_meet
                        case rel => exact ⟨rfl, rfl, rfl, rfl, ⟨by first | exact ⟨0, rfl⟩ | exact ⟨_, rfl⟩⟩⟩
                    · have b5 : (op.f0 == 5) = false := by simp [c5]
                      by_cases c6 : op.f0 = 6
                      · have h := HSEL.out
                        rw [if_neg c1, if_neg c2, if_neg c3, if_neg c4, if_neg c5, if_pos c6] at h
                        obtain ⟨m, hm, he⟩ := Option.map_eq_some_iff.1 h
                        simp only [Prod.mk.injEq] at he
                        obtain ⟨rfl, rfl, rfl, rfl⟩ := he
                        have HM := Aside0.mk hm
                        have b6 : (op.f0 == 6) = true := by simp [c6]
                        clear h hm HSEL c1 c2 c3 c4 c5 c6
                        go_wp2_with (go_at_call 16; refine (glossatorref3_Mod.calls _ _ m _ HM.out).mono ?_; rintro e w4 ⟨rfl, ⟨nd, rfl⟩⟩)
                        go_meet
                        case rel => exact ⟨rfl, rfl, rfl, rfl, ⟨⟨_, rfl⟩⟩⟩
                      · have b6 : (op.f0 == 6) = false := by simp [c6]
                        by_cases c7 : op.f0 = 7
                        · have h := HSEL.out
                          rw [if_neg c1, if_neg c2, if_neg c3, if_neg c4, if_neg c5, if_neg c6, if_pos c7] at h
                          obtain ⟨m, hm, he⟩ := Option.map_eq_some_iff.1 h
                          simp only [Prod.mk.injEq] at he
                          obtain ⟨rfl, rfl, rfl, rfl⟩ := he
                          have HM := Aside0.mk hm
                          have b7 : (op.f0 == 7) = true := by simp [c7]
                          clear h hm HSEL c1 c2 c3 c4 c5 c6 c7
                          go_wp2_with (go_at_call 16; refine (glossatorref3_Mod.calls _ _ m _ HM.out).mono ?_; rintro e w4 ⟨rfl, ⟨nd, rfl⟩⟩)
                          go_meet
                          case rel => exact ⟨rfl, rfl, rfl, rfl, ⟨⟨_, rfl⟩⟩⟩
                        · have b7 : (op.f0 == 7) = false := by simp [c7]
                          by_cases c8 : op.f0 = 8
                          · have h := HSEL.out
                            rw [if_neg c1, if_neg c2, if_neg c3, if_neg c4, if_neg c5, if_neg c6, if_neg c7, if_pos c8] at h
                            obtain ⟨m, hm, he⟩ := Option.map_eq_some_iff.1 h
                            simp only [Prod.mk.injEq] at he
                            obtain ⟨rfl, rfl, rfl, rfl⟩ := he
                            have HM := Aside0.mk hm
                            have b8 : (op.f0 == 8) = true := by simp [c8]
                            clear h hm HSEL c1 c2 c3 c4 c5 c6 c7 c8
                            go_wp2_with (go_at_call 16; refine (glossatorref3_Mod.calls _ _ m _ HM.out).mono ?_; rintro e w4 ⟨rfl, ⟨nd, rfl⟩⟩)
                            go_meet
                            case rel => exact ⟨rfl, rfl, rfl, rfl, ⟨⟨_, rfl⟩⟩⟩
                          · have b8 : (op.f0 == 8) = false := by simp [c8]
                            by_cases c9 : op.f0 = 9
                            · have h := HSEL.out
                              rw [if_neg c1, if_neg c2, if_neg c3, if_neg c4, if_neg c5, if_neg c6, if_neg c7, if_neg c8, if_pos c9] at h
                              have b9 : (op.f0 == 9) = true := by simp [c9]
                              injection h with h
                              simp only [Prod.mk.injEq] at h
                              obtain ⟨rfl, rfl, rfl, rfl⟩ := h
                              clear HSEL c1 c2 c3 c4 c5 c6 c7 c8 c9
                              go_wp2
                              all_goals
                                go_meet
                                case rel => exact ⟨rfl, rfl, by unfold mn; first | rw [if_pos (by omega)] | rw [if_neg (by omega)], rfl, ⟨⟨0, rfl⟩⟩⟩
                            · have b9 : (op.f0 == 9) = false := by simp [c9]
                              by_cases c10 : op.f0 = 10
                              · have h := HSEL.out
                                rw [if_neg c1, if_neg c2, if_neg c3, if_neg c4, if_neg c5, if_neg c6, if_neg c7, if_neg c8, if_neg c9, if_pos c10] at h
                                have b10 : (op.f0 == 10) = true := by simp [c10]
                                injection h with h
                                simp only [Prod.mk.injEq] at h
                                obtain ⟨rfl, rfl, rfl, rfl⟩ := h
                                clear HSEL c1 c2 c3 c4 c5 c6 c7 c8 c9 c10
                                go_wp2
                                all_goals
                                  go_meet
                                  case rel => exact ⟨rfl, rfl, by unfold mx; first | rw [if_pos (by omega)] | rw [if_neg (by omega)], rfl, ⟨⟨0, rfl⟩⟩⟩
                              · have b10 : (op.f0 == 10) = false := by simp [c10]
                                have h := HSEL.out
                                rw [if_neg c1, if_neg c2, if_neg c3, if_neg c4, if_neg c5, if_neg c6, if_neg c7, if_neg c8, if_neg c9, if_neg c10] at h
                                injection h with h
                                simp only [Prod.mk.injEq] at h
                                by_cases cl : x < y
                                · rw [if_pos cl] at h
                                  have bl : decide (x < y) = true := by simp [cl]
                                  obtain ⟨rfl, rfl, rfl, rfl⟩ := h
                                  clear HSEL cl c1 c2 c3 c4 c5 c6 c7 c8 c9 c10
                                  go_wp2
                                  go_meet
                                  case rel => exact ⟨rfl, rfl, rfl, rfl, ⟨⟨0, rfl⟩⟩⟩
                                · rw [if_neg cl] at h
                                  have bl : decide (x < y) = false := by simp [cl]
                                  obtain ⟨rfl, rfl, rfl, rfl⟩ := h
                                  clear HSEL cl c1 c2 c3 c4 c5 c6 c7 c8 c9 c10
                                  go_wp2
                                  go_meet
                                  case rel => exact ⟨rfl, rfl, rfl, rfl, ⟨⟨0, rfl⟩⟩⟩
          case rest =>
            obtain ⟨rfl, rfl, rfl, rfl, HDR⟩ := hcut
            have hpp := selR_pops HSEL.out
            have hdr : Chg (fun _ => False) wr wc := HAL.out.trans (Chg.drawn HDR.out) (fun _ _ h => h)
            have HBW := Aside0.mk (hdr.at HB.out (fun h => h))
            have HIW := Aside0.mk (HO.out.keep HI1.out (hdr.mono (fun _ _ h => h.elim)))
            have HCW := Aside0.mk (HCH.out.trans (hdr.mono (T := S) (fun _ _ h => h.elim)) (fun _ _ h => h))
            have hnsb : ¬ S1 w.heap.size := fun h => by rcases HS.out _ h with h | h; (have := HS0.out _ h; omega); omega
            have HNSB := Aside0.mk hnsb
            clear hdr hnsb HAL HOB HZB HZC q0 q1 q2 HDR HSEL
            obtain ⟨⟨n, b, s3⟩, hr1, hr2⟩ := Option.bind_eq_some_iff.1 HST.out
            have HR1 := Aside0.mk hr1
            have HR2 := Aside0.mk (show (if b = true then (if 0 ≤ (size : Int) - pops ∧ (size : Int) - pops < 24 then some (some (zs.set ((size : Int) - pops).toNat n, ((size : Int) - pops).toNat + 1), s3) else none) else some (none, s3)) = some (nx, s2) from hr2)
            clear hr1 hr2 HST
            have hen := HO.out.enters
            by_cases ck : kind ≥ 0
            · have bk : decide (kind ≥ 0) = true := by simpa using ck
              have hg : G s1 kind idx = some (n, b, s3) := by have h := HR1.out; rwa [if_pos ck] at h
              have HG := Aside0.mk hg
              clear hg ck HR1
              cases b with
              | false =>
                have h2 := HR2.out
                rw [if_neg (by simp)] at h2
                injection h2 with h2
                injection h2 with h3 h4
                subst h3 h4
                have h5 := HR.out
                have h6 : (0, false, s3) = r := Option.some.inj h5
                subst h6
                clear h5 HR HR2
                go_wp2_with (((with_reducible refine (HO.out.goes HIW.out HG.out).mono ?_); rintro e w4 ⟨rfl, S4, hI4, hc4, hS4⟩))
                go_ret2
                exact ⟨rfl, S4, hI4, HCW.out.trans hc4 (fun k hk h => (HS.out k h).resolve_right (by omega)), fun k hk => (hS4 k hk).elim (fun h => (HS.out k h).imp_right Nat.le_of_lt) (fun h => .inr (Nat.le_trans HCW.out.size h))⟩
              | true =>
                have h2 := HR2.out
                rw [if_pos rfl] at h2
                split at h2
                · next hrg =>
                  injection h2 with h2
                  injection h2 with h3 h4
                  subst h3 h4
                  clear HR2
                  go_upto_region 43 with (((with_reducible refine (HO.out.goes HIW.out HG.out).mono ?_); rintro e w4 ⟨rfl, S4, hI4, hc4, hS4⟩))
                  have HB4 := Aside0.mk (hc4.at HBW.out HNSB.out)
                  have HI4 := Aside0.mk hI4
                  have HC4 := Aside0.mk (HCW.out.trans hc4 (fun k hk h => (HS.out k h).resolve_right (by omega)))
                  have HS4 := Aside0.mk (fun (k : Nat) (hk : S4 k) => (hS4 k hk).elim (HS.out k) (fun h => .inr (Nat.lt_of_lt_of_le (lt_of_blk HBW.out) h)))
                  have HNS4 := Aside0.mk (show ¬ S4 w.heap.size from fun h => by rcases HS4.out _ h with h | h; (have := HS0.out _ h; omega); omega)
                  have hr1_ := hc4
                  clear hI4 hc4 hS4
                  obtain ⟨k, hk⟩ : ∃ k : Nat, (size : Int) - pops = (k : Int) := ⟨((size : Int) - pops).toNat, by omega⟩
                  have hkt : ((size : Int) - pops).toNat = k := by omega
                  have hrun := HR.out
                  rw [hkt] at hrun
                  have hk24 : k < 24 := by omega
                  have HRK := Aside0.mk (show execR G own (List.drop (i + 1) ops) (zs.set k n) (k + 1) s3 = some r from hrun)
                  have cz : w4.cell? ⟨w.heap.size, k, none⟩ = some (.int .i64 (rd zs (k : Int))) := by
                    rw [cells_of_blk HB4.out]
                    have hl := HZ.out
                    have : k < zs.length := by omega
                    simp [rd, List.getD_eq_getElem?_getD, this]
                  have cf : w4.frozen? ⟨w.heap.size, k, none⟩ = false := free_of_blk HB4.out k
                  have hk0 : (0 : Int) ≤ (k : Int) := by omega
                  have hk1 : (k : Int) < 24 := by omega
                  have HF : Aside0 (ExecI G I own ops r S w (i + 1) (k + 1) (w4.setCell ⟨w.heap.size, k, none⟩ (.int .i64 n))) := by
                    refine ⟨⟨zs.set k n, s3, S4, HRK.out, by rw [List.length_set]; exact HZ.out, by omega, ?_, ?_, ?_, ?_, HS4.out⟩⟩
                    · have := hb_set HB4.out k (.int .i64 n)
                      rw [stack_set] at this
                      exact this
                    · exact HO.out.keep HI4.out (Chg.set _ _ _ ⟨HNS4.out, HBB.out⟩)
                    · exact HC4.out.trans (Chg.set (S := fun j => j = w.heap.size) _ _ _ rfl) (fun j hj e => by omega)
                    · simpa using lt_of_blk HB4.out
                  clear hrun hkt hr1_ hrg HR
                  go_wp2
                  go_roundg k1
                  case measure => omega
                  case rel => exact ⟨i + 1, k + 1, by first | rfl | (congr 1; omega), by first | rfl | (congr 1; omega), by omega, HF⟩
                · cases h2
            · have bk : decide (kind ≥ 0) = false := by simpa using ck
              have hg : some (res, true, s1) = some (n, b, s3) := by have h := HR1.out; rwa [if_neg ck] at h
              injection hg with hg
              simp only [Prod.mk.injEq] at hg
              obtain ⟨rfl, rfl, rfl⟩ := hg
              clear ck HR1
              have h2 := HR2.out
              rw [if_pos rfl] at h2
              split at h2
              · next hrg =>
                injection h2 with h2
                injection h2 with h3 h4
                subst h3 h4
                clear HR2
                go_upto_region 43 with (fail)
                obtain ⟨S4, hS4⟩ : ∃ S4, S4 = S1 := ⟨_, rfl⟩
                have HB4 := HBW
                have HI4 := HIW
                have HC4 := HCW
                have HS4 := HS
                have HNS4 := HNSB
                rw [← hS4] at HI4 HS4 HNS4
                have hr1_ := hS4
                clear hS4
                obtain ⟨k, hk⟩ : ∃ k : Nat, (size : Int) - pops = (k : Int) := ⟨((size : Int) - pops).toNat, by omega⟩
                have hkt : ((size : Int) - pops).toNat = k := by omega
                have hrun := HR.out
                rw [hkt] at hrun
                have hk24 : k < 24 := by omega
                have HRK := Aside0.mk (show execR G own (List.drop (i + 1) ops) (zs.set k res) (k + 1) s1 = some r from hrun)
                have cz : wc.cell? ⟨w.heap.size, k, none⟩ = some (.int .i64 (rd zs (k : Int))) := by
                  rw [cells_of_blk HB4.out]
                  have hl := HZ.out
                  have : k < zs.length := by omega
                  simp [rd, List.getD_eq_getElem?_getD, this]
                have cf : wc.frozen? ⟨w.heap.size, k, none⟩ = false := free_of_blk HB4.out k
                have hk0 : (0 : Int) ≤ (k : Int) := by omega
                have hk1 : (k : Int) < 24 := by omega
                have HF : Aside0 (ExecI G I own ops r S w (i + 1) (k + 1) (wc.setCell ⟨w.heap.size, k, none⟩ (.int .i64 res))) := by
                  refine ⟨⟨zs.set k res, s1, S4, HRK.out, by rw [List.length_set]; exact HZ.out, by omega, ?_, ?_, ?_, ?_, HS4.out⟩⟩
                  · have := hb_set HB4.out k (.int .i64 res)
                    rw [stack_set] at this
                    exact this
                  · exact HO.out.keep HI4.out (Chg.set _ _ _ ⟨HNS4.out, HBB.out⟩)
                  · exact HC4.out.trans (Chg.set (S := fun j => j = w.heap.size) _ _ _ rfl) (fun j hj e => by omega)
                  · simpa using lt_of_blk HB4.out
                clear hrun hkt hr1_ hrg HR
                go_wp2
                go_roundg k1
                case measure => omega
                case rel => exact ⟨i + 1, k + 1, by first | rfl | (congr 1; omega), by first | rfl | (congr 1; omega), by omega, HF⟩
              · cases h2

theorem ref_oracle {A : Option Addr} {c : Nat} {vs : List S31} {w0 : World} {vb lb kb : Nat} (hv : Kd.C k31 w0 A vs.length vs) :
    OracleR (kb + 1) 22 #[.pointer (some ⟨kb, 0, none⟩), .pointer (some ⟨lb, 0, none⟩)] (refG vs) (gotI A c vs w0 vb lb kb) where
  lt := fun h hk => got_lt h hk
  keep := fun h hc => got_keep h hc
  enters := fun args w => enters_ Try.func22 (by kernel_rfl) rfl args w
  goes := fun h hg => ref_calls hv hg h
/-- Rows of the call's own, behind what a set of older blocks does. -/
theorem rows_stay {qs : List (List S160)} {W : World} {base : Nat} {S : Nat → Prop} {V : Option Addr} {c : Nat} (h : Kd.R (Kd.slice 160 k160) 42 W base (fun _ => True) (.slice V qs.length c) qs) (hS : ∀ k, S k → ¬ base ≤ k) (i : Int) (h0 : 0 ≤ i) (h1 : i < (qs.length : Int)) :
    ∃ ad A0 c0, V = some ad ∧ (rdq qs i).length ≤ c0 ∧ ∀ W', Chg S W W' → W'.cell? (ad.add i.toNat) = some (.slice A0 (rdq qs i).length c0) ∧ Kd.C k160 W' A0 (rdq qs i).length (rdq qs i) := by
  obtain ⟨ad, A0, c0, hA, x, hc, hC⟩ := at_q (Kd.R_reads' h).2.2 i h0 h1
  refine ⟨ad, A0, c0, hA, hc, fun W' hch => ?_⟩
  have h' := Kd.R_step (Kd.R_bound h) (fun k hk hlt => hch.block k hlt (fun e => hS k e hk.2.1))
  obtain ⟨ad', A0', c0', hA', x', hc', hC'⟩ := at_q (Kd.R_reads' h').2.2 i h0 h1
  obtain ⟨g, cap, he, hg1, hg2, _⟩ := Kd.R_form h (by omega)
  injection he with e1 _ _
  rw [hA] at hA' e1
  injection hA' with hA'
  subst hA'
  injection e1 with e1
  have hblk : (ad.add i.toNat).block = g := by rw [e1, addg]
  have hce : W'.cell? (ad.add i.toNat) = W.cell? (ad.add i.toNat) := by
    unfold World.cell?
    rw [hblk, hch.block g hg2 (fun e => hS g e hg1)]
  rw [hce, x] at x'
  injection x' with x'
  injection x' with e2 _ e3
  subst e2
  exact ⟨hce.trans x, hC'⟩
/-- Behind Compile: its two boxes and the rows. -/
def Aft1 (W5 : World) (l : List (List S160)) (b : Bool) (b1 qb : Nat) (X : World) : Prop :=
  ∃ V c base, X.heap[b1]? = some (.cells #[.bool b] 4 (0, 0)) ∧ X.heap[qb]? = some (.cells #[.slice V l.length c] 22 (0, 0)) ∧ Kd.R (Kd.slice 160 k160) 42 X base (fun _ => True) (.slice V l.length c) l ∧ Below W5.heap.size W5 X ∧ W5.heap.size ≤ base ∧ W5.heap.size ≤ qb
theorem Aft1.below {W5 X Y : World} {l : List (List S160)} {b : Bool} {b1 qb : Nat} (h : Aft1 W5 l b b1 qb X) (hb : Below X.heap.size X Y) : Aft1 W5 l b b1 qb Y := by
  obtain ⟨V, c, base, h1, h2, h3, h4, h5, h6⟩ := h
  exact ⟨V, c, base, (hb.block _ (lt_of_blk h1)).trans h1, (hb.block _ (lt_of_blk h2)).trans h2, Kd.R_below h3 hb, h4.trans (hb.mono h4.size), h5, h6⟩
theorem comp1 {k : Nat} {a0 : Int} {A : Option Addr} {c : Nat} {l : List (List S160)} {e : Int} {W5 : World} (hr : Kd.C (Kd.slice 160 k160) W5 A l.length l) (hc : l.length ≤ c) (hck : querylang_Check.f k a0 l = some e) (hlen : l.length ≤ 11728124029610) (hrows : ∀ q ∈ l, ∃ r, api_QOp_88.f q = some r) (X : World) (hX : Below W5.heap.size W5 X) :
    Calls Try.prog 17 #[.agg #[.int .i64 a0, .slice A l.length c]] X fun en X' => ∃ b1 qb, en = .returned (.func (.func 89) #[] #[.pointer (some ⟨b1, 0, none⟩), .pointer (some ⟨qb, 0, none⟩)]) ∧ Aft1 W5 l (e == 0) b1 qb X' ∧ Below X.heap.size X X' := by
  refine (compile_calls k a0 A c l e X (Kd.C_below hr hX) hc hck hlen hrows).mono ?_
  rintro en X' ⟨b1, qb, v, rfl, h1, h2, h3, h4, h5, h6⟩
  obtain ⟨V, cv, rfl⟩ := Kd.R_slice h3
  have := hX.size
  exact ⟨b1, qb, rfl, ⟨V, cv, X.heap.size, h1, h2, h3, hX.trans (h4.mono hX.size), hX.size, by omega⟩, h4⟩
/-- Behind the function that Compile gave back. -/
def Aft2 (A : Option Addr) (c : Nat) (vs : List S31) (w0 : World) (vb lb kb : Nat) (W5 : World) (nums : List Int) (keys : List S26) (AN : Option Addr) (cn tb : Nat) (Y : World) : Prop :=
  nums.length ≤ cn ∧ (∀ Z, Chg (fun k => k = tb) Y Z → Kd.C (Kd.int .i64) Z AN nums.length nums) ∧ ∃ S', gotI A c vs w0 vb lb kb keys S' Y ∧ Chg (fun k => k = kb) W5 Y ∧ ¬ S' tb
theorem comp2 {A : Option Addr} {c : Nat} {vs : List S31} {w0 : World} {vb lb kb : Nat} {W5 : World} (hv : Kd.C k31 w0 A vs.length vs) {kf : Nat} {l : List (List S160)} {b : Bool} {b1 qb : Nat} {k1 k2 k3 : Int} {nums : List Int} {keys : List S26}
    (hI : gotI A c vs w0 vb lb kb [] (fun k => k = kb) W5) (hz : kb < W5.heap.size) (h : cmpP vs kf b l k1 k2 k3 [] = some (nums, keys)) (Y : World) (hY : Aft1 W5 l b b1 qb Y) :
    Calls Try.prog 89 #[.agg #[.int .i64 k1, .int .i64 k2, .int .i64 k3], .func (.func 18) #[] #[.pointer (some ⟨kb, 0, none⟩), .pointer (some ⟨lb, 0, none⟩)], .pointer (some ⟨b1, 0, none⟩), .pointer (some ⟨qb, 0, none⟩)] Y fun en Y' =>
      ∃ AN cn, en = .returned (.agg #[.slice AN nums.length cn, .string (⟨#[]⟩ : ByteArray)]) ∧ Chg (fun k => k = kb) Y Y' ∧ ∀ tb, tb ≠ kb → (tb < Y.heap.size ∨ Y'.heap.size ≤ tb) → Aft2 A c vs w0 vb lb kb W5 nums keys AN cn tb Y' := by
  obtain ⟨V, cq, base, h1, h2, h3, h4, h5, h6⟩ := hY
  refine (cmp1_calls hv kf h1 h2 (rows_stay h3 (fun k hk => by subst hk; omega)) (got_keep hI (Chg.of_new h4)) (by show qb ≠ kb; omega) h).mono ?_
  rintro en Y' ⟨⟨AN, cn, rfl, g1, g2⟩, S', g3, g4, g5⟩
  refine ⟨AN, cn, rfl, g4, fun tb n1 n2 => ⟨g1, fun Z hZ => g2 Z (hZ.mono (fun k _ e => by subst e; exact n2)), S', g3, (Chg.of_new h4 : Chg (fun k => k = kb) W5 Y).trans g4 (fun _ _ e => e), fun hs => ?_⟩⟩
  rcases g5 _ hs with e | e
  · exact n1 e
  · have := got_lt g3 hs; omega

theorem run_store_fn (a : Addr) (fn : Fn) (first captured : Array Value) (m : Mode) (w : World) : (store a (.func fn first captured) m).run Try.prog w = match w.cell? a with
      | some _ => if w.frozen? a then .halt (.unsupported (.unsafePointer "a write to bytes that a string shares")) w else .ok () (w.setCell a (.func fn first captured))
      | none => match w.farStore Try.prog a (.func fn first captured) (m == .atomic) with
        | .ok (w', _) => .ok () w'
        | .error h => .halt h w := run_store Try.prog w a _ m rfl
attribute [local go_sem] run_store_fn
theorem Aft2.below {A : Option Addr} {c : Nat} {vs : List S31} {w0 : World} {vb lb kb : Nat} {W5 : World} {nums : List Int} {keys : List S26} {AN : Option Addr} {cn tb : Nat} {Y Z : World} (h : Aft2 A c vs w0 vb lb kb W5 nums keys AN cn tb Y) (hb : Below Y.heap.size Y Z) : Aft2 A c vs w0 vb lb kb W5 nums keys AN cn tb Z := by
  obtain ⟨h1, h2, S', h3, h4, h5⟩ := h
  exact ⟨h1, fun Z' hZ => h2 Z' ((Chg.of_new hb : Chg (fun k => k = tb) Y Z).trans hZ (fun _ _ e => e)), S', got_keep h3 (Chg.of_new hb), h4.trans (Chg.of_new hb) (fun _ _ e => e), h5⟩
set_option maxRecDepth 100000 in
set_option maxHeartbeats 8000000 in
theorem law_calls (k : Nat) (a0_0 : Int) (A0_1 : Option Addr) (c0_1 : Nat) (l0_1 : List (List (S160))) (a1_0 : Int) (a1_1 : Int) (a1_2 : Int) (A2 : Option Addr) (c2 : Nat) (l2 : List (S31)) (r : Bool) (w : World) (hr0_1 : Kd.C (Kd.slice 160 k160) w A0_1 l0_1.length l0_1) (hc0_1 : l0_1.length ≤ c0_1) (hr2 : Kd.C k31 w A2 l2.length l2) (hc2 : l2.length ≤ c2) (hq : glossatorlaw3_queryExample.f k = some true) (e : Int) (hck : querylang_Check.f k a0_0 l0_1 = some e) (hlen : l0_1.length ≤ 11728124029610) (hrows : ∀ q ∈ l0_1, ∃ r, api_QOp_88.f q = some r) (nums : List Int) (keys : List S26) (hcm : cmpP l2 k (e == 0) l0_1 a1_0 a1_1 a1_2 [] = some (nums, keys)) (e2 : Int) (hck2 : glossatorref3_CheckProgram.f k a0_0 l0_1 = some e2) (ev : Bool) (hev : glossatorref3_EqualValues.f k nums (⟨#[]⟩ : ByteArray) [] (⟨#[]⟩ : ByteArray) = some ev) (hgd : e2 = 0 → a1_0 = 1 → a1_2 = 0 → 0 ≤ a1_1 → a1_1 < (l0_1.length : Int) → r = true ∧ ∃ n b2 keys2, execR (refG l2) a1_1 (rdq l0_1 a1_1) zeros24 0 [] = some (n, b2, keys2) ∧ api_QKey.f k keys keys2 = some true ∧ glossatorref3_EqualValues.f k nums (⟨#[]⟩ : ByteArray) [n] (⟨#[]⟩ : ByteArray) = some true) (hrb : (e2 ≠ 0 ∨ a1_0 ≠ 1 ∨ a1_2 ≠ 0 ∨ a1_1 < 0 ∨ a1_1 ≥ (l0_1.length : Int)) → r = ((keys.length == 0) && ev)) :
    Calls Try.prog 3 #[.agg #[.int .i64 a0_0, .slice A0_1 l0_1.length c0_1], .agg #[.int .i64 a1_0, .int .i64 a1_1, .int .i64 a1_2], .slice A2 l2.length c2] w fun e w' => e = .returned (.bool r) ∧ Below w.heap.size w w' := by
  have HR0 := Aside0.mk hr0_1
  have HC0 := Aside0.mk hc0_1
  have HR2 := Aside0.mk hr2
  have HQ := Aside0.mk hq
  have HCK := Aside0.mk hck
  have HCK2 := Aside0.mk hck2
  have HEV := Aside0.mk hev
  have HRB := Aside0.mk hrb
  have HGD := Aside0.mk hgd
  clear hr0_1 hc0_1 hr2 hc2 hq hck hck2 hev hrb hgd
  go_enter Try.func3, Try.ntmps3
  go_upto_region 1 with (fail)
  obtain ⟨W1, hW1⟩ : ∃ W1, ((w.alloc (.cells #[.int .i64 a0_0, .slice A0_1 l0_1.length c0_1] 24)).alloc (.cells #[.int .i64 a1_0, .int .i64 a1_1, .int .i64 a1_2] 26)).alloc (.cells #[.slice A2 l2.length c2] 27) = W1 := ⟨_, rfl⟩
  have hb1 : Below w.heap.size w W1 := by rw [← hW1]; exact below_alloc (below_alloc (below_alloc (Below.refl _ _) _) _) _
  have hp1 : W1.heap[w.heap.size]? = some (.cells #[.int .i64 a0_0, .slice A0_1 l0_1.length c0_1] 24 (0, 0)) := by rw [← hW1]; exact hb_alloc (hb_alloc (hb_new w _))
  have hk1 : W1.heap[w.heap.size + 1]? = some (.cells #[.int .i64 a1_0, .int .i64 a1_1, .int .i64 a1_2] 26 (0, 0)) := by
    rw [← hW1]
    refine hb_alloc ?_
    have := hb_new (w.alloc (.cells #[.int .i64 a0_0, .slice A0_1 l0_1.length c0_1] 24)) (.cells #[.int .i64 a1_0, .int .i64 a1_1, .int .i64 a1_2] 26)
    rwa [World.size_alloc] at this
  have hv1 : W1.heap[w.heap.size + 1 + 1]? = some (.cells #[.slice A2 l2.length c2] 27 (0, 0)) := by
    rw [← hW1]
    have := hb_new ((w.alloc (.cells #[.int .i64 a0_0, .slice A0_1 l0_1.length c0_1] 24)).alloc (.cells #[.int .i64 a1_0, .int .i64 a1_1, .int .i64 a1_2] 26)) (.cells #[.slice A2 l2.length c2] 27)
    rwa [World.size_alloc, World.size_alloc] at this
  have hz1 : W1.heap.size = w.heap.size + 3 := by rw [← hW1]; simp
  rw [hW1]
  clear hW1
  have HB1 := Aside0.mk hb1
  have HP1 := Aside0.mk hp1
  have HK1 := Aside0.mk hk1
  have HV1 := Aside0.mk hv1
  have HZ1 := Aside0.mk hz1
  clear hb1 hp1 hk1 hv1 hz1
  go_upto_region 3 with (go_at_call 14; refine (glossatorlaw3_queryExample.calls k true W1 HQ.out).mono ?_; rintro en w2 ⟨rfl, hb2⟩)
  have hb2w : Below w.heap.size w w2 := HB1.out.trans (hb2.mono HB1.out.size)
  have n0 : (w2.alloc (.cells #[.nilFunc] 33)).cell? ⟨w2.heap.size, 0, none⟩ = some .nilFunc := cell_of_blk (hb_new _ _)
  have n1 := free_of_blk (hb_new w2 (.cells #[.nilFunc] 33)) 0
  go_upto_region 5 with (fail)
  clear n0 n1
  obtain ⟨W5, hW5⟩ : ∃ W5, (w2.alloc (.cells #[.func (.func 15) #[] #[.pointer (some ⟨w.heap.size + 1 + 1, 0, none⟩)]] 33)).alloc (.cells #[.slice none 0 0] 34) = W5 := ⟨_, rfl⟩
  have hb5 : Below w2.heap.size w2 W5 := by rw [← hW5]; exact below_alloc (below_alloc (Below.refl _ _) _) _
  have hl5 : W5.heap[w2.heap.size]? = some (.cells #[.func (.func 15) #[] #[.pointer (some ⟨w.heap.size + 1 + 1, 0, none⟩)]] 33 (0, 0)) := by rw [← hW5]; exact hb_alloc (hb_new w2 _)
  have hg5 : W5.heap[w2.heap.size + 1]? = some (.cells #[.slice none 0 0] 34 (0, 0)) := by
    rw [← hW5]
    have := hb_new (w2.alloc (.cells #[.func (.func 15) #[] #[.pointer (some ⟨w.heap.size + 1 + 1, 0, none⟩)]] 33)) (.cells #[.slice none 0 0] 34)
    rwa [World.size_alloc] at this
  have hz5 : W5.heap.size = w2.heap.size + 2 := by rw [← hW5]; simp
  rw [hW5]
  clear hW5
  have hs1 := HZ1.out
  have hs2 := hb2.size
  have hb15 : Below W1.heap.size W1 W5 := hb2.trans (hb5.mono hs2)
  have hbw5 : Below w.heap.size w W5 := hb2w.trans (hb5.mono hb2w.size)
  have hI5 : gotI A2 c2 l2 w (w.heap.size + 1 + 1) w2.heap.size (w2.heap.size + 1) [] (fun k => k = w2.heap.size + 1) W5 :=
    ⟨.slice none 0 0, fun k => by simp [Value.ownBlock], hg5, Kd.R_nil _ _ _ _ _, hl5, (hb15.block _ (lt_of_blk HV1.out)).trans HV1.out, hbw5, by omega, by omega, by omega⟩
  have HWW := Aside0.mk (show w.heap.size + 3 ≤ w2.heap.size by omega)
  have HC17 := Aside0.mk (comp1 (Kd.C_below HR0.out hbw5) HC0.out HCK.out hlen hrows)
  have HC89 := Aside0.mk (fun b1 qb => comp2 (b1 := b1) (qb := qb) HR2.out hI5 (by omega) hcm)
  have HP5 := Aside0.mk ((hb15.block _ (lt_of_blk HP1.out)).trans HP1.out)
  have HK5 := Aside0.mk ((hb15.block _ (lt_of_blk HK1.out)).trans HK1.out)
  have HI5 := Aside0.mk hI5
  have HBW5 := Aside0.mk hbw5
  have HZ5 := Aside0.mk hz5
  clear hb2 hb2w hb5 hl5 hg5 hz5 hs1 hs2 hb15 hbw5 hI5 hlen hrows hcm HP1 HK1 HV1
  refine start_ (n := 7) (S := fun w' => w'.cell? ⟨w.heap.size, 0, none⟩ = some (.int .i64 a0_0) ∧ w'.cell? ⟨w.heap.size, 1, none⟩ = some (.slice A0_1 l0_1.length c0_1) ∧ w'.cell? ⟨w.heap.size + 1, 0, none⟩ = some (.int .i64 a1_0) ∧ w'.cell? ⟨w.heap.size + 1, 1, none⟩ = some (.int .i64 a1_1) ∧ w'.cell? ⟨w.heap.size + 1, 2, none⟩ = some (.int .i64 a1_2)) (ds := [6]) #[false, false, false, false, false, false, false] (by kernel_rfl) rfl rfl (⟨(cells_of_blk HP5.out 0).trans rfl, (cells_of_blk HP5.out 1).trans rfl, (cells_of_blk HK5.out 0).trans rfl, (cells_of_blk HK5.out 1).trans rfl, (cells_of_blk HK5.out 2).trans rfl⟩) (fun hHeld => ?_)
  refine take_ (i := 0) (N := some 16) (v := ?_) (a' := ?_) #[true, false, false, false, false, false, false] rfl rfl (by kernel_rfl) (fun _ _ _ h => h) (Or.inl ⟨by rfl, ?_⟩) hHeld ?_ ?_
  rotate_left
  · rintro w' ⟨s0_, s1_, s2_, s3_, s4_⟩
    go_simp
    with_reducible rfl
  rotate_left
  · simp only [Act.put, List.setIfInBounds_toArray, List.set_cons_zero, List.set_cons_succ, i64_w, i32_w]
    rfl
  refine take_ (i := 2) (N := some 18) (v := ?_) (a' := ?_) #[true, false, true, false, false, false, false] rfl rfl (by kernel_rfl) (fun _ _ _ h => h) (Or.inl ⟨by rfl, ?_⟩) hHeld ?_ ?_
  rotate_left
  · rintro w' ⟨s0_, s1_, s2_, s3_, s4_⟩
    go_simp
    with_reducible rfl
  rotate_left
  · simp only [Act.put, List.setIfInBounds_toArray, List.set_cons_zero, List.set_cons_succ, i64_w, i32_w]
    rfl
  refine pure_ (i := 3) (N := some 19) (v := ?_) (a' := ?_) #[true, false, true, true, false, false, false] rfl rfl (by kernel_rfl) (fun _ _ _ h => h) (Or.inl ⟨by rfl, ?_⟩) ?_ ?_
  rotate_left
  · intro w'
    go_simp
    with_reducible rfl
  rotate_left
  · simp only [Act.put, List.setIfInBounds_toArray, List.set_cons_zero, List.set_cons_succ, i64_w, i32_w]
    rfl
  have HSC := Aside0.mk (show ∀ X, Chg (fun k => k = w2.heap.size + 1) W5 X → (X.cell? ⟨w.heap.size, 0, none⟩ = some (.int .i64 a0_0) ∧ X.cell? ⟨w.heap.size, 1, none⟩ = some (.slice A0_1 l0_1.length c0_1) ∧ X.cell? ⟨w.heap.size + 1, 0, none⟩ = some (.int .i64 a1_0) ∧ X.cell? ⟨w.heap.size + 1, 1, none⟩ = some (.int .i64 a1_1) ∧ X.cell? ⟨w.heap.size + 1, 2, none⟩ = some (.int .i64 a1_2)) from fun X hX => by
    have hww := HWW.out
    have e1 := hX.at HP5.out (by omega)
    have e2 := hX.at HK5.out (by omega)
    exact ⟨(cells_of_blk e1 0).trans rfl, (cells_of_blk e1 1).trans rfl, (cells_of_blk e2 0).trans rfl, (cells_of_blk e2 1).trans rfl, (cells_of_blk e2 2).trans rfl⟩)
  refine join_ (σ := Nat × Nat × Option Addr × Nat × Nat) 1 #[true, true, true, true, true, true, false] (fun s => [(17, .func (.func 89) #[] #[.pointer (some ⟨s.1, 0, none⟩), .pointer (some ⟨s.2.1, 0, none⟩)]), (20, .agg #[.slice s.2.2.1 nums.length s.2.2.2.1, .string (⟨#[]⟩ : ByteArray)]), (9, .pointer (some ⟨s.2.2.2.2, 0, none⟩))]) (fun s w' => Aft2 A2 c2 l2 w (w.heap.size + 1 + 1) w2.heap.size (w2.heap.size + 1) W5 nums keys s.2.2.1 s.2.2.2.1 s.2.2.2.2 w' ∧ w'.heap[s.2.2.2.2]? = some (.cells #[.slice none 0 0, .string (⟨#[]⟩ : ByteArray)] 31 (0, 0)) ∧ W5.heap.size ≤ s.2.2.2.2) ?_ (fun hcont => ?_)
  · rintro ⟨b1, qb, AN, cn, tb⟩ w9 ⟨ha, ht, hz⟩
    refine norm_ (a' := ?_) ?_ ?_
    rotate_left
    · show putAll _ _ = _
      simp only [putAll, Act.put, List.setIfInBounds_toArray, List.set_cons_zero, List.set_cons_succ, i64_w, i32_w]
      rfl
    refine last_ (i := 6) (N := none) #[true, true, true, true, true, true, true] rfl rfl (by kernel_rfl) (by decide) (fun K hK => ?_)
    have s0 : w9.cell? ⟨tb, 0, none⟩ = some (.slice none 0 0) := (cells_of_blk ht 0).trans rfl
    have s1 : w9.cell? ⟨tb, 1, none⟩ = some (.string (⟨#[]⟩ : ByteArray)) := (cells_of_blk ht 1).trans rfl
    have f0 := free_of_blk ht 0
    have f1 := free_of_blk ht 1
    have HT := Aside0.mk ht
    have HA := Aside0.mk ha
    clear ht ha
    refine skip_ (w1 := ?_) (by rfl) rfl ?_ ?_
    rotate_left
    · go_simp
      rfl
    refine hK.out _ _ (done_ (by kernel_rfl) ?_)
    clear hK K s0 s1 f0 f1
    dsimp only at HA HT hz
    obtain ⟨hcn, hNU, S9, hI9, hc9, hSt⟩ := HA.out
    have hz5 := HZ5.out
    have hc96 : Chg (fun k => k = tb) w9 ((w9.setCell ⟨tb, 0, none⟩ (.slice AN nums.length cn)).setCell ⟨tb, 1, none⟩ (.string (⟨#[]⟩ : ByteArray))) := (Chg.set w9 ⟨tb, 0, none⟩ (.slice AN nums.length cn) (S := fun k => k = tb) rfl).trans (Chg.set _ ⟨tb, 1, none⟩ (.string (⟨#[]⟩ : ByteArray)) (S := fun k => k = tb) rfl) (fun _ _ e => e)
    have ht6 : ((w9.setCell ⟨tb, 0, none⟩ (.slice AN nums.length cn)).setCell ⟨tb, 1, none⟩ (.string (⟨#[]⟩ : ByteArray))).heap[tb]? = some (.cells #[.slice AN nums.length cn, .string (⟨#[]⟩ : ByteArray)] 31 (0, 0)) := hb_set (hb_set HT.out 0 _) 1 _
    obtain ⟨W6, hW6⟩ : ∃ W6, ((w9.setCell ⟨tb, 0, none⟩ (.slice AN nums.length cn)).setCell ⟨tb, 1, none⟩ (.string (⟨#[]⟩ : ByteArray))) = W6 := ⟨_, rfl⟩
    rw [hW6] at hc96 ht6 ⊢
    clear hW6
    have hI6 := got_keep hI9 (hc96.mono (fun k _ e => by subst e; exact ⟨hSt, by omega⟩))
    have hNU6 := hNU W6 hc96
    have hch6 : Chg (fun k => k = w2.heap.size + 1) W5 W6 := hc9.trans hc96 (fun j hj e => by omega)
    obtain ⟨x0, x1, x2, x3, x4⟩ := HSC.out W6 hch6
    have HCN := Aside0.mk hcn
    have HNU6 := Aside0.mk hNU6
    have HI6 := Aside0.mk hI6
    have HT6 := Aside0.mk ht6
    have HCH6 := Aside0.mk hch6
    clear hcn hNU hI9 hc9 hSt hc96 ht6 hI6 hNU6 hch6 HA HT hz5
    have hbel6 : Below w.heap.size w W6 := by obtain ⟨_, _, _, _, _, _, h, _⟩ := HI6.out; exact h
    have HC19 := Aside0.mk (glossatorref3_CheckProgram.calls k a0_0 A0_1 c0_1 l0_1 e2 W6 (Kd.C_below HR0.out hbel6) HC0.out HCK2.out)
    have HBEL6 := Aside0.mk hbel6
    clear hbel6
    by_cases d0 : e2 = 0
    case neg =>
      have b0 : (e2 != 0) = true := bne_iff_ne.2 d0
      go_upto_region 7 with (go_at_call 19; refine HC19.out.mono ?_; rintro en w10 ⟨rfl, hb10⟩; have y1 := (hb10.cell (World.block_lt_of_cell? _ _ x1)).trans x1; have y2 := (hb10.cell (World.block_lt_of_cell? _ _ x2)).trans x2; have y3 := (hb10.cell (World.block_lt_of_cell? _ _ x3)).trans x3; have y4 := (hb10.cell (World.block_lt_of_cell? _ _ x4)).trans x4)
      have hr10 := hb10.trans (Below.refl _ _)
      have hbel10 : Below w.heap.size w w10 := HBEL6.out.trans (hb10.mono HBEL6.out.size)
      obtain ⟨v6, g1, g2, g3, _⟩ := HI6.out
      obtain ⟨V6, cv6, hv6⟩ := Kd.R_slice g3
      subst hv6
      have HHP := Aside0.mk (show ∀ X, Below W6.heap.size W6 X → (X.cell? ⟨w2.heap.size + 1, 0, none⟩ = some (.slice V6 keys.length cv6) ∧ X.cell? ⟨tb, 0, none⟩ = some (.slice AN nums.length cn) ∧ X.cell? ⟨tb, 1, none⟩ = some (.string (⟨#[]⟩ : ByteArray))) from fun X hX =>
        ⟨cell_of_blk ((hX.block _ (lt_of_blk g2)).trans g2), (cells_of_blk ((hX.block _ (lt_of_blk HT6.out)).trans HT6.out) 0).trans rfl, (cells_of_blk ((hX.block _ (lt_of_blk HT6.out)).trans HT6.out) 1).trans rfl⟩)
      have HB10 := Aside0.mk hb10
      have HBEL10 := Aside0.mk hbel10
      clear g1 g2 g3 hb10 hr10 hbel10 x0 x1 x2 x3 x4 y1 y2 y3 y4
      have hu31 := Try.underlying31
      by_cases d1 : keys.length = 0
      case neg =>
        have b1 : ((keys.length : Int) == 0) = false := beq_eq_false_iff_ne.2 (by omega)
        go_wp2_with (go_at_call 14; refine (glossatorlaw3_queryExample.calls k true w10 HQ.out).mono ?_; rintro en w11 ⟨rfl, hb11⟩; obtain ⟨u0, u1, u2⟩ := HHP.out w11 (HB10.out.trans (hb11.mono HB10.out.size)); have HB11 := Aside0.mk hb11; clear hb11)
        go_ret
        exact ⟨by rw [HRB.out (.inl d0), show (keys.length == 0) = false from beq_eq_false_iff_ne.2 d1]; rfl, HBEL10.out.trans (HB11.out.mono HBEL10.out.size)⟩
      have b1 : ((keys.length : Int) == 0) = true := by simp [d1]
      go_wp2_with (first | (go_at_call 14; refine (glossatorlaw3_queryExample.calls k true w10 HQ.out).mono ?_; rintro en w11 ⟨rfl, hb11⟩; obtain ⟨u0, u1, u2⟩ := HHP.out w11 (HB10.out.trans (hb11.mono HB10.out.size)); have HB11 := Aside0.mk hb11; clear hb11) | (go_at_call 20; refine (glossatorref3_EqualValues.calls k AN cn nums (⟨#[]⟩ : ByteArray) none 0 [] (⟨#[]⟩ : ByteArray) ev w11 (Kd.C_below HNU6.out (HB10.out.trans (HB11.out.mono HB10.out.size))) HCN.out (Kd.C_nil _ _) (Nat.le_refl _) HEV.out).mono ?_; rintro en w12 ⟨rfl, hb12⟩))
      go_ret
      exact ⟨by rw [HRB.out (.inl d0), d1]; rfl, HBEL10.out.trans ((HB11.out.trans (hb12.mono HB11.out.size)).mono HBEL10.out.size)⟩
    have b0 : (e2 != 0) = false := bne_eq_false_iff_eq.2 d0
    by_cases d2 : a1_0 = 1
    case neg =>
      have b2 : (a1_0 != 1) = true := bne_iff_ne.2 d2
      go_upto_region 7 with (go_at_call 19; refine HC19.out.mono ?_; rintro en w10 ⟨rfl, hb10⟩; have y1 := (hb10.cell (World.block_lt_of_cell? _ _ x1)).trans x1; have y2 := (hb10.cell (World.block_lt_of_cell? _ _ x2)).trans x2; have y3 := (hb10.cell (World.block_lt_of_cell? _ _ x3)).trans x3; have y4 := (hb10.cell (World.block_lt_of_cell? _ _ x4)).trans x4)
      have hr10 := hb10.trans (Below.refl _ _)
      have hbel10 : Below w.heap.size w w10 := HBEL6.out.trans (hb10.mono HBEL6.out.size)
      obtain ⟨v6, g1, g2, g3, _⟩ := HI6.out
      obtain ⟨V6, cv6, hv6⟩ := Kd.R_slice g3
      subst hv6
      have HHP := Aside0.mk (show ∀ X, Below W6.heap.size W6 X → (X.cell? ⟨w2.heap.size + 1, 0, none⟩ = some (.slice V6 keys.length cv6) ∧ X.cell? ⟨tb, 0, none⟩ = some (.slice AN nums.length cn) ∧ X.cell? ⟨tb, 1, none⟩ = some (.string (⟨#[]⟩ : ByteArray))) from fun X hX =>
        ⟨cell_of_blk ((hX.block _ (lt_of_blk g2)).trans g2), (cells_of_blk ((hX.block _ (lt_of_blk HT6.out)).trans HT6.out) 0).trans rfl, (cells_of_blk ((hX.block _ (lt_of_blk HT6.out)).trans HT6.out) 1).trans rfl⟩)
      have HB10 := Aside0.mk hb10
      have HBEL10 := Aside0.mk hbel10
      clear g1 g2 g3 hb10 hr10 hbel10 x0 x1 x2 x3 x4 y1 y2 y3 y4
      have hu31 := Try.underlying31
      by_cases d1 : keys.length = 0
      case neg =>
        have b1 : ((keys.length : Int) == 0) = false := beq_eq_false_iff_ne.2 (by omega)
        go_wp2_with (go_at_call 14; refine (glossatorlaw3_queryExample.calls k true w10 HQ.out).mono ?_; rintro en w11 ⟨rfl, hb11⟩; obtain ⟨u0, u1, u2⟩ := HHP.out w11 (HB10.out.trans (hb11.mono HB10.out.size)); have HB11 := Aside0.mk hb11; clear hb11)
        go_ret
        exact ⟨by rw [HRB.out (.inr (.inl d2)), show (keys.length == 0) = false from beq_eq_false_iff_ne.2 d1]; rfl, HBEL10.out.trans (HB11.out.mono HBEL10.out.size)⟩
      have b1 : ((keys.length : Int) == 0) = true := by simp [d1]
      go_wp2_with (first | (go_at_call 14; refine (glossatorlaw3_queryExample.calls k true w10 HQ.out).mono ?_; rintro en w11 ⟨rfl, hb11⟩; obtain ⟨u0, u1, u2⟩ := HHP.out w11 (HB10.out.trans (hb11.mono HB10.out.size)); have HB11 := Aside0.mk hb11; clear hb11) | (go_at_call 20; refine (glossatorref3_EqualValues.calls k AN cn nums (⟨#[]⟩ : ByteArray) none 0 [] (⟨#[]⟩ : ByteArray) ev w11 (Kd.C_below HNU6.out (HB10.out.trans (HB11.out.mono HB10.out.size))) HCN.out (Kd.C_nil _ _) (Nat.le_refl _) HEV.out).mono ?_; rintro en w12 ⟨rfl, hb12⟩))
      go_ret
      exact ⟨by rw [HRB.out (.inr (.inl d2)), d1]; rfl, HBEL10.out.trans ((HB11.out.trans (hb12.mono HB11.out.size)).mono HBEL10.out.size)⟩
    have b2 : (a1_0 != 1) = false := bne_eq_false_iff_eq.2 d2
    by_cases d3 : a1_2 = 0
    case neg =>
      have b3 : (a1_2 != 0) = true := bne_iff_ne.2 d3
      go_upto_region 7 with (go_at_call 19; refine HC19.out.mono ?_; rintro en w10 ⟨rfl, hb10⟩; have y1 := (hb10.cell (World.block_lt_of_cell? _ _ x1)).trans x1; have y2 := (hb10.cell (World.block_lt_of_cell? _ _ x2)).trans x2; have y3 := (hb10.cell (World.block_lt_of_cell? _ _ x3)).trans x3; have y4 := (hb10.cell (World.block_lt_of_cell? _ _ x4)).trans x4)
      have hr10 := hb10.trans (Below.refl _ _)
      have hbel10 : Below w.heap.size w w10 := HBEL6.out.trans (hb10.mono HBEL6.out.size)
      obtain ⟨v6, g1, g2, g3, _⟩ := HI6.out
      obtain ⟨V6, cv6, hv6⟩ := Kd.R_slice g3
      subst hv6
      have HHP := Aside0.mk (show ∀ X, Below W6.heap.size W6 X → (X.cell? ⟨w2.heap.size + 1, 0, none⟩ = some (.slice V6 keys.length cv6) ∧ X.cell? ⟨tb, 0, none⟩ = some (.slice AN nums.length cn) ∧ X.cell? ⟨tb, 1, none⟩ = some (.string (⟨#[]⟩ : ByteArray))) from fun X hX =>
        ⟨cell_of_blk ((hX.block _ (lt_of_blk g2)).trans g2), (cells_of_blk ((hX.block _ (lt_of_blk HT6.out)).trans HT6.out) 0).trans rfl, (cells_of_blk ((hX.block _ (lt_of_blk HT6.out)).trans HT6.out) 1).trans rfl⟩)
      have HB10 := Aside0.mk hb10
      have HBEL10 := Aside0.mk hbel10
      clear g1 g2 g3 hb10 hr10 hbel10 x0 x1 x2 x3 x4 y1 y2 y3 y4
      have hu31 := Try.underlying31
      by_cases d1 : keys.length = 0
      case neg =>
        have b1 : ((keys.length : Int) == 0) = false := beq_eq_false_iff_ne.2 (by omega)
        go_wp2_with (go_at_call 14; refine (glossatorlaw3_queryExample.calls k true w10 HQ.out).mono ?_; rintro en w11 ⟨rfl, hb11⟩; obtain ⟨u0, u1, u2⟩ := HHP.out w11 (HB10.out.trans (hb11.mono HB10.out.size)); have HB11 := Aside0.mk hb11; clear hb11)
        go_ret
        exact ⟨by rw [HRB.out (.inr (.inr (.inl d3))), show (keys.length == 0) = false from beq_eq_false_iff_ne.2 d1]; rfl, HBEL10.out.trans (HB11.out.mono HBEL10.out.size)⟩
      have b1 : ((keys.length : Int) == 0) = true := by simp [d1]
      go_wp2_with (first | (go_at_call 14; refine (glossatorlaw3_queryExample.calls k true w10 HQ.out).mono ?_; rintro en w11 ⟨rfl, hb11⟩; obtain ⟨u0, u1, u2⟩ := HHP.out w11 (HB10.out.trans (hb11.mono HB10.out.size)); have HB11 := Aside0.mk hb11; clear hb11) | (go_at_call 20; refine (glossatorref3_EqualValues.calls k AN cn nums (⟨#[]⟩ : ByteArray) none 0 [] (⟨#[]⟩ : ByteArray) ev w11 (Kd.C_below HNU6.out (HB10.out.trans (HB11.out.mono HB10.out.size))) HCN.out (Kd.C_nil _ _) (Nat.le_refl _) HEV.out).mono ?_; rintro en w12 ⟨rfl, hb12⟩))
      go_ret
      exact ⟨by rw [HRB.out (.inr (.inr (.inl d3))), d1]; rfl, HBEL10.out.trans ((HB11.out.trans (hb12.mono HB11.out.size)).mono HBEL10.out.size)⟩
    have b3 : (a1_2 != 0) = false := bne_eq_false_iff_eq.2 d3
    by_cases d4 : a1_1 < 0
    case pos =>
      have b4 : decide (a1_1 < 0) = true := decide_eq_true d4
      go_upto_region 7 with (go_at_call 19; refine HC19.out.mono ?_; rintro en w10 ⟨rfl, hb10⟩; have y1 := (hb10.cell (World.block_lt_of_cell? _ _ x1)).trans x1; have y2 := (hb10.cell (World.block_lt_of_cell? _ _ x2)).trans x2; have y3 := (hb10.cell (World.block_lt_of_cell? _ _ x3)).trans x3; have y4 := (hb10.cell (World.block_lt_of_cell? _ _ x4)).trans x4)
      have hr10 := hb10.trans (Below.refl _ _)
      have hbel10 : Below w.heap.size w w10 := HBEL6.out.trans (hb10.mono HBEL6.out.size)
      obtain ⟨v6, g1, g2, g3, _⟩ := HI6.out
      obtain ⟨V6, cv6, hv6⟩ := Kd.R_slice g3
      subst hv6
      have HHP := Aside0.mk (show ∀ X, Below W6.heap.size W6 X → (X.cell? ⟨w2.heap.size + 1, 0, none⟩ = some (.slice V6 keys.length cv6) ∧ X.cell? ⟨tb, 0, none⟩ = some (.slice AN nums.length cn) ∧ X.cell? ⟨tb, 1, none⟩ = some (.string (⟨#[]⟩ : ByteArray))) from fun X hX =>
        ⟨cell_of_blk ((hX.block _ (lt_of_blk g2)).trans g2), (cells_of_blk ((hX.block _ (lt_of_blk HT6.out)).trans HT6.out) 0).trans rfl, (cells_of_blk ((hX.block _ (lt_of_blk HT6.out)).trans HT6.out) 1).trans rfl⟩)
      have HB10 := Aside0.mk hb10
      have HBEL10 := Aside0.mk hbel10
      clear g1 g2 g3 hb10 hr10 hbel10 x0 x1 x2 x3 x4 y1 y2 y3 y4
      have hu31 := Try.underlying31
      by_cases d1 : keys.length = 0
      case neg =>
        have b1 : ((keys.length : Int) == 0) = false := beq_eq_false_iff_ne.2 (by omega)
        go_wp2_with (go_at_call 14; refine (glossatorlaw3_queryExample.calls k true w10 HQ.out).mono ?_; rintro en w11 ⟨rfl, hb11⟩; obtain ⟨u0, u1, u2⟩ := HHP.out w11 (HB10.out.trans (hb11.mono HB10.out.size)); have HB11 := Aside0.mk hb11; clear hb11)
        go_ret
        exact ⟨by rw [HRB.out (.inr (.inr (.inr (.inl d4)))), show (keys.length == 0) = false from beq_eq_false_iff_ne.2 d1]; rfl, HBEL10.out.trans (HB11.out.mono HBEL10.out.size)⟩
      have b1 : ((keys.length : Int) == 0) = true := by simp [d1]
      go_wp2_with (first | (go_at_call 14; refine (glossatorlaw3_queryExample.calls k true w10 HQ.out).mono ?_; rintro en w11 ⟨rfl, hb11⟩; obtain ⟨u0, u1, u2⟩ := HHP.out w11 (HB10.out.trans (hb11.mono HB10.out.size)); have HB11 := Aside0.mk hb11; clear hb11) | (go_at_call 20; refine (glossatorref3_EqualValues.calls k AN cn nums (⟨#[]⟩ : ByteArray) none 0 [] (⟨#[]⟩ : ByteArray) ev w11 (Kd.C_below HNU6.out (HB10.out.trans (HB11.out.mono HB10.out.size))) HCN.out (Kd.C_nil _ _) (Nat.le_refl _) HEV.out).mono ?_; rintro en w12 ⟨rfl, hb12⟩))
      go_ret
      exact ⟨by rw [HRB.out (.inr (.inr (.inr (.inl d4)))), d1]; rfl, HBEL10.out.trans ((HB11.out.trans (hb12.mono HB11.out.size)).mono HBEL10.out.size)⟩
    have b4 : decide (a1_1 < 0) = false := decide_eq_false d4
    by_cases d5 : a1_1 ≥ (l0_1.length : Int)
    case pos =>
      have b5 : decide (a1_1 ≥ (l0_1.length : Int)) = true := decide_eq_true d5
      go_upto_region 7 with (go_at_call 19; refine HC19.out.mono ?_; rintro en w10 ⟨rfl, hb10⟩; have y1 := (hb10.cell (World.block_lt_of_cell? _ _ x1)).trans x1; have y2 := (hb10.cell (World.block_lt_of_cell? _ _ x2)).trans x2; have y3 := (hb10.cell (World.block_lt_of_cell? _ _ x3)).trans x3; have y4 := (hb10.cell (World.block_lt_of_cell? _ _ x4)).trans x4)
      have hr10 := hb10.trans (Below.refl _ _)
      have hbel10 : Below w.heap.size w w10 := HBEL6.out.trans (hb10.mono HBEL6.out.size)
      obtain ⟨v6, g1, g2, g3, _⟩ := HI6.out
      obtain ⟨V6, cv6, hv6⟩ := Kd.R_slice g3
      subst hv6
      have HHP := Aside0.mk (show ∀ X, Below W6.heap.size W6 X → (X.cell? ⟨w2.heap.size + 1, 0, none⟩ = some (.slice V6 keys.length cv6) ∧ X.cell? ⟨tb, 0, none⟩ = some (.slice AN nums.length cn) ∧ X.cell? ⟨tb, 1, none⟩ = some (.string (⟨#[]⟩ : ByteArray))) from fun X hX =>
        ⟨cell_of_blk ((hX.block _ (lt_of_blk g2)).trans g2), (cells_of_blk ((hX.block _ (lt_of_blk HT6.out)).trans HT6.out) 0).trans rfl, (cells_of_blk ((hX.block _ (lt_of_blk HT6.out)).trans HT6.out) 1).trans rfl⟩)
      have HB10 := Aside0.mk hb10
      have HBEL10 := Aside0.mk hbel10
      clear g1 g2 g3 hb10 hr10 hbel10 x0 x1 x2 x3 x4 y1 y2 y3 y4
      have hu31 := Try.underlying31
      by_cases d1 : keys.length = 0
      case neg =>
        have b1 : ((keys.length : Int) == 0) = false := beq_eq_false_iff_ne.2 (by omega)
        go_wp2_with (go_at_call 14; refine (glossatorlaw3_queryExample.calls k true w10 HQ.out).mono ?_; rintro en w11 ⟨rfl, hb11⟩; obtain ⟨u0, u1, u2⟩ := HHP.out w11 (HB10.out.trans (hb11.mono HB10.out.size)); have HB11 := Aside0.mk hb11; clear hb11)
        go_ret
        exact ⟨by rw [HRB.out (.inr (.inr (.inr (.inr d5)))), show (keys.length == 0) = false from beq_eq_false_iff_ne.2 d1]; rfl, HBEL10.out.trans (HB11.out.mono HBEL10.out.size)⟩
      have b1 : ((keys.length : Int) == 0) = true := by simp [d1]
      go_wp2_with (first | (go_at_call 14; refine (glossatorlaw3_queryExample.calls k true w10 HQ.out).mono ?_; rintro en w11 ⟨rfl, hb11⟩; obtain ⟨u0, u1, u2⟩ := HHP.out w11 (HB10.out.trans (hb11.mono HB10.out.size)); have HB11 := Aside0.mk hb11; clear hb11) | (go_at_call 20; refine (glossatorref3_EqualValues.calls k AN cn nums (⟨#[]⟩ : ByteArray) none 0 [] (⟨#[]⟩ : ByteArray) ev w11 (Kd.C_below HNU6.out (HB10.out.trans (HB11.out.mono HB10.out.size))) HCN.out (Kd.C_nil _ _) (Nat.le_refl _) HEV.out).mono ?_; rintro en w12 ⟨rfl, hb12⟩))
      go_ret
      exact ⟨by rw [HRB.out (.inr (.inr (.inr (.inr d5)))), d1]; rfl, HBEL10.out.trans ((HB11.out.trans (hb12.mono HB11.out.size)).mono HBEL10.out.size)⟩
    have b5 : decide (a1_1 ≥ (l0_1.length : Int)) = false := decide_eq_false d5
    have x0k := HBEL6.out.size
    go_upto_region 8 with (go_at_call 19; refine HC19.out.mono ?_; rintro en w10 ⟨rfl, hb10⟩; have y1 := (hb10.cell (World.block_lt_of_cell? _ _ x1)).trans x1; have y2 := (hb10.cell (World.block_lt_of_cell? _ _ x2)).trans x2; have y3 := (hb10.cell (World.block_lt_of_cell? _ _ x3)).trans x3; have y4 := (hb10.cell (World.block_lt_of_cell? _ _ x4)).trans x4)
    go_upto_region 9 with (fail)
    obtain ⟨W11, hW11⟩ : ∃ W11, w10.alloc (.cells #[.slice none 0 0] 34) = W11 := ⟨_, rfl⟩
    have hb11 : Below W6.heap.size W6 W11 := by rw [← hW11]; exact below_alloc hb10 _
    have hn11 : W11.heap[w10.heap.size]? = some (.cells #[.slice none 0 0] 34 (0, 0)) := by rw [← hW11]; exact hb_new _ _
    rw [hW11]
    clear hW11
    have hw10 := hb10.size
    have hbel11 : Below w.heap.size w W11 := HBEL6.out.trans (hb11.mono HBEL6.out.size)
    have hI11 : gotI A2 c2 l2 w (w.heap.size + 1 + 1) w2.heap.size w10.heap.size [] (fun k => k = w10.heap.size) W11 := by
      obtain ⟨_, _, g2, _, g4, g5, _, g7, g8, g9⟩ := HI6.out
      have := lt_of_blk g2
      exact ⟨.slice none 0 0, fun k => by simp [Value.ownBlock], hn11, Kd.R_nil _ _ _ _ _, (hb11.block _ (lt_of_blk g4)).trans g4, (hb11.block _ (lt_of_blk g5)).trans g5, hbel11, by omega, by omega, by omega⟩
    obtain ⟨hrt, n, bb, keys2, hex, hkq, hvq⟩ := HGD.out d0 d2 d3 (by omega) (by omega)
    subst hrt
    have p1 := eq_true (show 0 ≤ a1_1 by omega)
    have p2 := eq_true (show a1_1 < (l0_1.length : Int) by omega)
    obtain ⟨ad, A0, cr, hA, z0, hcr, hC⟩ := at_q (Kd.C_below HR0.out HBEL6.out) a1_1 (by omega) (by omega)
    subst hA
    have HBX := Aside0.mk (show ∀ X, Chg (fun k => k = w10.heap.size) W11 X → Below W6.heap.size W6 X from fun X hX => hb11.trans (hX.to_below (fun k _ e => by subst e; exact hw10) hb11.size))
    have HSD := Aside0.mk (show ∀ X, Chg (fun k => k = w10.heap.size) W11 X → (X.cell? ⟨w.heap.size, 1, none⟩ = some (.slice (some ad) l0_1.length c0_1) ∧ X.cell? ⟨w.heap.size + 1, 1, none⟩ = some (.int .i64 a1_1) ∧ X.cell? (ad.add a1_1.toNat) = some (.slice A0 (rdq l0_1 a1_1).length cr)) from fun X hX => by
      have hb := HBX.out X hX
      exact ⟨(hb.cell (World.block_lt_of_cell? _ _ x1)).trans x1, (hb.cell (World.block_lt_of_cell? _ _ x3)).trans x3, (hb.cell (World.block_lt_of_cell? _ _ z0)).trans z0⟩)
    have HEX := Aside0.mk hex
    have HKQ := Aside0.mk hkq
    have HVQ := Aside0.mk hvq
    have HI11 := Aside0.mk hI11
    have HRC := Aside0.mk hC
    have HCR := Aside0.mk hcr
    have HZ11 := Aside0.mk (lt_of_blk hn11)
    clear hex hkq hvq hI11 hC hcr hn11 hb11 hbel11 hb10 x0 x1 x2 x3 x4 y1 y2 y3 y4 z0 d0 d2 d3 d4 d5 b0 b2 b3 b4 b5
    refine start_ (n := 15) (S := fun w' => w'.cell? ⟨w.heap.size, 1, none⟩ = some (.slice (some ad) l0_1.length c0_1) ∧ w'.cell? ⟨w.heap.size + 1, 1, none⟩ = some (.int .i64 a1_1) ∧ w'.cell? (ad.add a1_1.toNat) = some (.slice A0 (rdq l0_1 a1_1).length cr)) (ds := ([] : List Nat)) #[false, false, false, false, false, false, false, false, false, false, false, false, false, false, false] (by kernel_rfl) rfl rfl (HSD.out _ (Chg.drew _)) (fun hHeld => ?_)
    refine pure_ (i := 0) (N := some 59) (v := ?_) (a' := ?_) #[true, false, false, false, false, false, false, false, false, false, false, false, false, false, false] rfl rfl (by kernel_rfl) (fun _ _ _ h => h) (Or.inl ⟨by rfl, ?_⟩) ?_ ?_
    rotate_left
    · intro w'
      go_simp
      with_reducible rfl
    rotate_left
    · simp only [Act.put, List.setIfInBounds_toArray, List.set_cons_zero, List.set_cons_succ, i64_w, i32_w]
      rfl
    refine take_ (i := 1) (N := some 60) (v := ?_) (a' := ?_) #[true, true, false, false, false, false, false, false, false, false, false, false, false, false, false] rfl rfl (by kernel_rfl) (fun _ _ _ h => h) (Or.inl ⟨by rfl, ?_⟩) hHeld ?_ ?_
    rotate_left
    · rintro w' ⟨s0_, s1_, s2_⟩
      go_simp
      with_reducible rfl
    rotate_left
    · simp only [Act.put, List.setIfInBounds_toArray, List.set_cons_zero, List.set_cons_succ, i64_w, i32_w]
      rfl
    refine pure_ (i := 2) (N := some 61) (v := ?_) (a' := ?_) #[true, true, true, false, false, false, false, false, false, false, false, false, false, false, false] rfl rfl (by kernel_rfl) (fun _ _ _ h => h) (Or.inl ⟨by rfl, ?_⟩) ?_ ?_
    rotate_left
    · intro w'
      go_simp
      with_reducible rfl
    rotate_left
    · simp only [Act.put, List.setIfInBounds_toArray, List.set_cons_zero, List.set_cons_succ, i64_w, i32_w]
      rfl
    refine take_ (i := 3) (N := some 62) (v := ?_) (a' := ?_) #[true, true, true, true, false, false, false, false, false, false, false, false, false, false, false] rfl rfl (by kernel_rfl) (fun _ _ _ h => h) (Or.inl ⟨by rfl, ?_⟩) hHeld ?_ ?_
    rotate_left
    · rintro w' ⟨s0_, s1_, s2_⟩
      go_simp
      with_reducible rfl
    rotate_left
    · simp only [Act.put, List.setIfInBounds_toArray, List.set_cons_zero, List.set_cons_succ, i64_w, i32_w]
      rfl
    refine pure_ (i := 4) (N := some 63) (v := ?_) (a' := ?_) #[true, true, true, true, true, false, false, false, false, false, false, false, false, false, false] rfl rfl (by kernel_rfl) (fun _ _ _ h => h) (Or.inl ⟨by rfl, ?_⟩) ?_ ?_
    rotate_left
    · intro w'
      go_simp
      with_reducible rfl
    rotate_left
    · simp only [Act.put, List.setIfInBounds_toArray, List.set_cons_zero, List.set_cons_succ, i64_w, i32_w]
      rfl
    refine take_ (i := 5) (N := some 64) (v := ?_) (a' := ?_) #[true, true, true, true, true, true, false, false, false, false, false, false, false, false, false] rfl rfl (by kernel_rfl) (fun _ _ _ h => h) (Or.inl ⟨by rfl, ?_⟩) hHeld ?_ ?_
    rotate_left
    · rintro w' ⟨s0_, s1_, s2_⟩
      go_simp
      with_reducible rfl
    rotate_left
    · simp only [Act.put, List.setIfInBounds_toArray, List.set_cons_zero, List.set_cons_succ, i64_w, i32_w]
      rfl
    refine pure_ (i := 6) (N := some 65) (v := ?_) (a' := ?_) #[true, true, true, true, true, true, true, false, false, false, false, false, false, false, false] rfl rfl (by kernel_rfl) (fun _ _ _ h => h) (Or.inl ⟨by rfl, ?_⟩) ?_ ?_
    rotate_left
    · intro w'
      go_simp
      with_reducible rfl
    rotate_left
    · simp only [Act.put, List.setIfInBounds_toArray, List.set_cons_zero, List.set_cons_succ, i64_w, i32_w]
      rfl
    refine take_ (i := 7) (N := some 66) (v := ?_) (a' := ?_) #[true, true, true, true, true, true, true, true, false, false, false, false, false, false, false] rfl rfl (by kernel_rfl) (fun _ _ _ h => h) (Or.inl ⟨by rfl, ?_⟩) hHeld ?_ ?_
    rotate_left
    · rintro w' ⟨s0_, s1_, s2_⟩
      go_simp
      with_reducible rfl
    rotate_left
    · simp only [Act.put, List.setIfInBounds_toArray, List.set_cons_zero, List.set_cons_succ, i64_w, i32_w]
      rfl
    refine pure_ (i := 8) (N := some 67) (v := ?_) (a' := ?_) #[true, true, true, true, true, true, true, true, true, false, false, false, false, false, false] rfl rfl (by kernel_rfl) (fun _ _ _ h => h) (Or.inl ⟨by rfl, ?_⟩) ?_ ?_
    rotate_left
    · intro w'
      go_simp
      with_reducible rfl
    rotate_left
    · simp only [Act.put, List.setIfInBounds_toArray, List.set_cons_zero, List.set_cons_succ, i64_w, i32_w]
      rfl
    refine one_ (i := 9) (N := some 68) #[true, true, true, true, true, true, true, true, true, true, false, false, false, false, false] rfl rfl (by kernel_rfl) (by decide) (fun K hK => ?_)
    refine goes_ Try.func21 (by kernel_rfl) rfl #[.slice A0 (rdq l0_1 a1_1).length cr, .int .i64 a1_1, .func (.func 22) #[] #[.pointer (some ⟨w10.heap.size, 0, none⟩), .pointer (some ⟨w2.heap.size, 0, none⟩)]] (by rfl) rfl rfl (by (try simp only [List.map_toArray, List.map_cons, List.map_nil]); first | done | rfl) ?_
    refine (exec_calls (ref_oracle HR2.out) A0 cr (rdq l0_1 a1_1) a1_1 [] (n, bb, keys2) (fun k => k = w10.heap.size) _ (fun W' h' => Kd.C_below HRC.out (HBX.out W' ((Chg.drew _).trans h' (fun _ _ e => e)))) HCR.out (got_keep HI11.out (Chg.drew _)) (fun k hk => by subst hk; exact HZ11.out) HZ11.out HEX.out).mono ?_
    rintro e w13 ⟨rfl, S13, hI13, hc13, hS13⟩
    refine ⟨_, rfl, ?_⟩
    dsimp only at hI13
    have HC13 := Aside0.mk ((Chg.drew _ : Chg (fun k => k = w10.heap.size) W11 W11.drew).trans hc13 (fun _ _ e => e))
    have HI13 := Aside0.mk hI13
    clear hI13 hc13 hS13
    refine hK.out _ _ (HSD.out _ HC13.out) (fun hHeld => ?_)
    clear hK K
    refine norm_ (a' := ?_) ?_ ?_
    rotate_left
    · show Act.put _ (some 68) _ = _
      simp only [Act.put, List.setIfInBounds_toArray, List.set_cons_zero, List.set_cons_succ, i64_w, i32_w]
      rfl
    refine pure_ (i := 10) (N := some 58) (v := ?_) (a' := ?_) #[true, true, true, true, true, true, true, true, true, true, true, false, false, false, false] rfl rfl (by kernel_rfl) (fun _ _ _ h => h) (Or.inl ⟨by rfl, ?_⟩) ?_ ?_
    rotate_left
    · intro w'
      go_simp
      with_reducible rfl
    rotate_left
    · simp only [Act.put, List.setIfInBounds_toArray, List.set_cons_zero, List.set_cons_succ, i64_w, i32_w]
      rfl
    refine pure_ (i := 11) (N := some 69) (v := ?_) (a' := ?_) #[true, true, true, true, true, true, true, true, true, true, true, true, false, false, false] rfl rfl (by kernel_rfl) (fun _ _ _ h => h) (Or.inl ⟨by rfl, ?_⟩) ?_ ?_
    rotate_left
    · intro w'
      go_simp
      with_reducible rfl
    rotate_left
    · simp only [Act.put, List.setIfInBounds_toArray, List.set_cons_zero, List.set_cons_succ, i64_w, i32_w]
      rfl
    refine pure_ (i := 12) (N := some 70) (v := ?_) (a' := ?_) #[true, true, true, true, true, true, true, true, true, true, true, true, true, false, false] rfl rfl (by kernel_rfl) (fun _ _ _ h => h) (Or.inl ⟨by rfl, ?_⟩) ?_ ?_
    rotate_left
    · intro w'
      go_simp
      with_reducible rfl
    rotate_left
    · simp only [Act.put, List.setIfInBounds_toArray, List.set_cons_zero, List.set_cons_succ, i64_w, i32_w]
      rfl
    refine pure_ (i := 13) (N := some 11) (v := ?_) (a' := ?_) #[true, true, true, true, true, true, true, true, true, true, true, true, true, true, false] rfl rfl (by kernel_rfl) (fun _ _ _ h => h) (Or.inl ⟨by rfl, ?_⟩) ?_ ?_
    rotate_left
    · intro w'
      go_simp
      with_reducible rfl
    rotate_left
    · simp only [Act.put, List.setIfInBounds_toArray, List.set_cons_zero, List.set_cons_succ, i64_w, i32_w]
      rfl
    refine pure_ (i := 14) (N := some 12) (v := ?_) (a' := ?_) #[true, true, true, true, true, true, true, true, true, true, true, true, true, true, true] rfl rfl (by kernel_rfl) (fun _ _ _ h => h) (Or.inl ⟨by rfl, ?_⟩) ?_ ?_
    rotate_left
    · intro w'
      go_simp
      with_reducible rfl
    rotate_left
    · simp only [Act.put, List.setIfInBounds_toArray, List.set_cons_zero, List.set_cons_succ, i64_w, i32_w]
      rfl
    refine done_ (by kernel_rfl) ?_
    have hb13 : Below W6.heap.size W6 w13 := HBX.out _ HC13.out
    obtain ⟨v6, g1, g2, g3, _⟩ := got_keep HI6.out (Chg.of_new hb13)
    obtain ⟨V6, cv6, hv6⟩ := Kd.R_slice g3
    subst hv6
    obtain ⟨v13, j1, j2, j3, _⟩ := HI13.out
    obtain ⟨V13, cv13, hv13⟩ := Kd.R_slice j3
    subst hv13
    have ht13 := (hb13.block _ (lt_of_blk HT6.out)).trans HT6.out
    have HHP := Aside0.mk (show ∀ X, Below w13.heap.size w13 X → (X.cell? ⟨w2.heap.size + 1, 0, none⟩ = some (.slice V6 keys.length cv6) ∧ X.cell? ⟨w10.heap.size, 0, none⟩ = some (.slice V13 keys2.length cv13) ∧ X.cell? ⟨tb, 0, none⟩ = some (.slice AN nums.length cn) ∧ X.cell? ⟨tb, 1, none⟩ = some (.string (⟨#[]⟩ : ByteArray))) from fun X hX =>
      ⟨cell_of_blk ((hX.block _ (lt_of_blk g2)).trans g2), cell_of_blk ((hX.block _ (lt_of_blk j2)).trans j2), (cells_of_blk ((hX.block _ (lt_of_blk ht13)).trans ht13) 0).trans rfl, (cells_of_blk ((hX.block _ (lt_of_blk ht13)).trans ht13) 1).trans rfl⟩)
    have HK1 := Aside0.mk (Kd.R_reads' g3)
    have HK2 := Aside0.mk (Kd.R_reads' j3)
    have HB13 := Aside0.mk hb13
    have HBE13 := Aside0.mk (HBEL6.out.trans (hb13.mono HBEL6.out.size))
    have hu31 := Try.underlying31
    clear g1 g2 g3 j1 j2 j3 ht13 hb13 hHeld p1 p2
    go_wp2_with (first | (go_at_call 14; refine (glossatorlaw3_queryExample.calls k true w13 HQ.out).mono ?_; rintro en w14 ⟨rfl, hb14⟩; obtain ⟨u0, u1, u2, u3⟩ := HHP.out w14 hb14; have HB14 := Aside0.mk hb14; clear hb14) | (go_at_call 24; refine (api_QKey.calls k V6 cv6 keys V13 cv13 keys2 true w14 (Kd.C_below HK1.out.2.2 HB14.out) HK1.out.2.1 (Kd.C_below HK2.out.2.2 HB14.out) HK2.out.2.1 HKQ.out).mono ?_; rintro en w15 ⟨rfl, hb15⟩; have HB15 := Aside0.mk (HB14.out.trans (hb15.mono HB14.out.size)); obtain ⟨v0, v1, v2, v3⟩ := HHP.out w15 HB15.out; clear hb15) | (go_at_call 20; refine (glossatorref3_EqualValues.calls k AN cn nums (⟨#[]⟩ : ByteArray) (some ⟨w15.heap.size, 0, none⟩) 1 [n] (⟨#[]⟩ : ByteArray) true _ (Kd.C_below HNU6.out (below_alloc (HB13.out.trans (HB15.out.mono HB13.out.size)) _)) HCN.out (one_int (hb_new _ _)) (Nat.le_refl _) HVQ.out).mono ?_; rintro en w16 ⟨rfl, hb16⟩))
    go_ret
    have hb17 := below_alloc HB15.out (.cells #[.int .i64 n] 3)
    exact ⟨rfl, HBE13.out.trans ((hb17.trans (hb16.mono hb17.size)).mono HBE13.out.size)⟩
  · have HCO := Aside0.mk hcont
    clear hcont
    refine two_ (i := 1) (j := 5) (Ni := some 17) (Nj := some 9) #[true, true, true, true, false, false, false] #[true, false, true, true, false, true, false] rfl rfl rfl rfl (by kernel_rfl) (by decide) (by decide) (fun K hK => ?_) (fun K hK => ?_)
    · refine goes_ Try.func17 (by kernel_rfl) rfl #[.agg #[.int .i64 a0_0, .slice A0_1 l0_1.length c0_1]] (by rfl) rfl rfl (by (try simp only [List.map_toArray, List.map_cons, List.map_nil]); first | done | rfl) ?_
      refine (HC17.out _ (below_drew1 (Below.refl _ _))).mono ?_
      rintro en w6 ⟨b1, qb, rfl, ha6, hb6⟩
      refine ⟨_, rfl, ?_⟩
      have hch6 : Chg (fun k => k = w2.heap.size + 1) W5 w6 := Chg.of_new ((below_drew1 (Below.refl _ _)).trans hb6)
      have HA6 := Aside0.mk ha6
      have HCH6 := Aside0.mk hch6
      clear ha6 hb6 hch6
      refine hK.out _ _ (HSC.out _ HCH6.out) (fun hHeld => ?_)
      clear hK K
      refine norm_ (a' := ?_) ?_ ?_
      rotate_left
      · show Act.put _ (some 17) _ = _
        simp only [Act.put, List.setIfInBounds_toArray, List.set_cons_zero, List.set_cons_succ, i64_w, i32_w]
        rfl
      refine two_ (i := 4) (j := 5) (Ni := some 20) (Nj := some 9) #[true, true, true, true, true, false, false] #[true, true, true, true, false, true, false] rfl rfl rfl rfl (by kernel_rfl) (by decide) (by decide) (fun K hK => ?_) (fun K hK => ?_)
      · refine call_ 89 #[.agg #[.int .i64 a1_0, .int .i64 a1_1, .int .i64 a1_2], .func (.func 18) #[] #[.pointer (some ⟨w2.heap.size + 1, 0, none⟩), .pointer (some ⟨w2.heap.size, 0, none⟩)], .pointer (some ⟨b1, 0, none⟩), .pointer (some ⟨qb, 0, none⟩)] (by rfl) rfl (by have hen := fun args w => enters_ Try.func89 (by kernel_rfl) rfl args w; simp [execOp, resolve, invoke, Deferred.ofValue, Act.eval, hen]) ?_
        refine (HC89.out b1 qb w6 HA6.out).mono ?_
        rintro en w7 ⟨AN, cn, rfl, hc7, haf⟩
        refine ⟨_, rfl, ?_⟩
        have HCH7 := Aside0.mk (HCH6.out.trans hc7 (fun _ _ e => e))
        have HAF := Aside0.mk haf
        clear hc7 haf
        refine hK.out _ _ (HSC.out _ HCH7.out) (fun hHeld => ?_)
        clear hK K
        refine norm_ (a' := ?_) ?_ ?_
        rotate_left
        · show Act.put _ (some 20) _ = _
          simp only [Act.put, List.setIfInBounds_toArray, List.set_cons_zero, List.set_cons_succ, i64_w, i32_w]
          rfl
        refine one_ (i := 5) (N := some 9) #[true, true, true, true, true, true, false] rfl rfl (by kernel_rfl) (by decide) (fun K hK => ?_)
        refine value_ (v := .pointer (some ⟨w7.heap.size, 0, none⟩)) (w1 := w7.alloc (.cells #[.slice none 0 0, .string (⟨#[]⟩ : ByteArray)] 31)) (by rfl) rfl ?_ ?_
        · go_simp
        refine hK.out _ _ (HSC.out _ (HCH7.out.trans (Chg.alloc _ _) (fun _ _ e => e))) (fun hHeld => ?_)
        clear hK K
        refine norm_ (a' := ?_) ?_ ?_
        rotate_left
        · show Act.put _ (some 9) _ = _
          simp only [Act.put, List.setIfInBounds_toArray, List.set_cons_zero, List.set_cons_succ, i64_w, i32_w]
          rfl
        exact HCO.out (b1, qb, AN, cn, w7.heap.size) _ ⟨(HAF.out _ (by have := HCH7.out.size; have := HZ5.out; omega) (.inr (Nat.le_refl _))).below (below_alloc (Below.refl _ _) _), hb_new _ _, HCH7.out.size⟩
      · refine value_ (v := .pointer (some ⟨w6.heap.size, 0, none⟩)) (w1 := w6.alloc (.cells #[.slice none 0 0, .string (⟨#[]⟩ : ByteArray)] 31)) (by rfl) rfl ?_ ?_
        · go_simp
        refine hK.out _ _ (HSC.out _ (HCH6.out.trans (Chg.alloc _ _) (fun _ _ e => e))) (fun hHeld => ?_)
        clear hK K
        refine norm_ (a' := ?_) ?_ ?_
        rotate_left
        · show Act.put _ (some 9) _ = _
          simp only [Act.put, List.setIfInBounds_toArray, List.set_cons_zero, List.set_cons_succ, i64_w, i32_w]
          rfl
        refine one_ (i := 4) (N := some 20) #[true, true, true, true, true, true, false] rfl rfl (by kernel_rfl) (by decide) (fun K hK => ?_)
        refine call_ 89 #[.agg #[.int .i64 a1_0, .int .i64 a1_1, .int .i64 a1_2], .func (.func 18) #[] #[.pointer (some ⟨w2.heap.size + 1, 0, none⟩), .pointer (some ⟨w2.heap.size, 0, none⟩)], .pointer (some ⟨b1, 0, none⟩), .pointer (some ⟨qb, 0, none⟩)] (by rfl) rfl (by have hen := fun args w => enters_ Try.func89 (by kernel_rfl) rfl args w; simp [execOp, resolve, invoke, Deferred.ofValue, Act.eval, hen]) ?_
        refine (HC89.out b1 qb _ (HA6.out.below (below_alloc (Below.refl _ _) _))).mono ?_
        rintro en w7 ⟨AN, cn, rfl, hc7, haf⟩
        refine ⟨_, rfl, ?_⟩
        have hn6 : w6.heap.size ≠ w2.heap.size + 1 := by have := HCH6.out.size; have := HZ5.out; omega
        have hbx := hc7.at (hb_new w6 (.cells #[.slice none 0 0, .string (⟨#[]⟩ : ByteArray)] 31)) hn6
        have HCH7 := Aside0.mk ((HCH6.out.trans (Chg.alloc _ _) (fun _ _ e => e)).trans hc7 (fun _ _ e => e))
        have HAF := Aside0.mk (haf w6.heap.size hn6 (.inl (by simp)))
        clear hc7 haf
        refine hK.out _ _ (HSC.out _ HCH7.out) (fun hHeld => ?_)
        clear hK K
        refine norm_ (a' := ?_) ?_ ?_
        rotate_left
        · show Act.put _ (some 20) _ = _
          simp only [Act.put, List.setIfInBounds_toArray, List.set_cons_zero, List.set_cons_succ, i64_w, i32_w]
          rfl
        exact HCO.out (b1, qb, AN, cn, w6.heap.size) _ ⟨HAF.out, hbx, HCH6.out.size⟩
    · refine value_ (v := .pointer (some ⟨W5.heap.size, 0, none⟩)) (w1 := W5.drew.alloc (.cells #[.slice none 0 0, .string (⟨#[]⟩ : ByteArray)] 31)) (by rfl) rfl ?_ ?_
      · go_simp
      have HCA := Aside0.mk (show Chg (fun k => k = w2.heap.size + 1) W5 (W5.drew.alloc (.cells #[.slice none 0 0, .string (⟨#[]⟩ : ByteArray)] 31)) from (Chg.drew _).trans (Chg.alloc _ _) (fun _ _ e => e))
      refine hK.out _ _ (HSC.out _ HCA.out) (fun hHeld => ?_)
      clear hK K
      refine norm_ (a' := ?_) ?_ ?_
      rotate_left
      · show Act.put _ (some 9) _ = _
        simp only [Act.put, List.setIfInBounds_toArray, List.set_cons_zero, List.set_cons_succ, i64_w, i32_w]
        rfl
      refine one_ (i := 1) (N := some 17) #[true, true, true, true, false, true, false] rfl rfl (by kernel_rfl) (by decide) (fun K hK => ?_)
      refine goes_ Try.func17 (by kernel_rfl) rfl #[.agg #[.int .i64 a0_0, .slice A0_1 l0_1.length c0_1]] (by rfl) rfl rfl (by (try simp only [List.map_toArray, List.map_cons, List.map_nil]); first | done | rfl) ?_
      refine (HC17.out _ (below_alloc (below_drew1 (Below.refl _ _)) _)).mono ?_
      rintro en w6 ⟨b1, qb, rfl, ha6, hb6⟩
      refine ⟨_, rfl, ?_⟩
      have hbx6 : w6.heap[W5.heap.size]? = some (.cells #[.slice none 0 0, .string (⟨#[]⟩ : ByteArray)] 31 (0, 0)) := (hb6.block _ (lt_of_blk (hb_new W5.drew (.cells #[.slice none 0 0, .string (⟨#[]⟩ : ByteArray)] 31)))).trans (hb_new W5.drew (.cells #[.slice none 0 0, .string (⟨#[]⟩ : ByteArray)] 31))
      have HCH6 := Aside0.mk (HCA.out.trans (Chg.of_new hb6) (fun _ _ e => e))
      have HA6 := Aside0.mk ha6
      have HBX6 := Aside0.mk hbx6
      clear ha6 hb6 hbx6
      refine hK.out _ _ (HSC.out _ HCH6.out) (fun hHeld => ?_)
      clear hK K
      refine norm_ (a' := ?_) ?_ ?_
      rotate_left
      · show Act.put _ (some 17) _ = _
        simp only [Act.put, List.setIfInBounds_toArray, List.set_cons_zero, List.set_cons_succ, i64_w, i32_w]
        rfl
      refine one_ (i := 4) (N := some 20) #[true, true, true, true, true, true, false] rfl rfl (by kernel_rfl) (by decide) (fun K hK => ?_)
      refine call_ 89 #[.agg #[.int .i64 a1_0, .int .i64 a1_1, .int .i64 a1_2], .func (.func 18) #[] #[.pointer (some ⟨w2.heap.size + 1, 0, none⟩), .pointer (some ⟨w2.heap.size, 0, none⟩)], .pointer (some ⟨b1, 0, none⟩), .pointer (some ⟨qb, 0, none⟩)] (by rfl) rfl (by have hen := fun args w => enters_ Try.func89 (by kernel_rfl) rfl args w; simp [execOp, resolve, invoke, Deferred.ofValue, Act.eval, hen]) ?_
      refine (HC89.out b1 qb w6 HA6.out).mono ?_
      rintro en w7 ⟨AN, cn, rfl, hc7, haf⟩
      refine ⟨_, rfl, ?_⟩
      have hn6 : W5.heap.size ≠ w2.heap.size + 1 := by have := HZ5.out; omega
      have hbx := hc7.at HBX6.out hn6
      have HCH7 := Aside0.mk (HCH6.out.trans hc7 (fun _ _ e => e))
      have HAF := Aside0.mk (haf W5.heap.size hn6 (.inl (lt_of_blk HBX6.out)))
      clear hc7 haf
      refine hK.out _ _ (HSC.out _ HCH7.out) (fun hHeld => ?_)
      clear hK K
      refine norm_ (a' := ?_) ?_ ?_
      rotate_left
      · show Act.put _ (some 20) _ = _
        simp only [Act.put, List.setIfInBounds_toArray, List.set_cons_zero, List.set_cons_succ, i64_w, i32_w]
        rfl
      exact HCO.out (b1, qb, AN, cn, W5.heap.size) _ ⟨HAF.out, hbx, Nat.le_refl _⟩

/-- What the law answers where it answers true (at every other input: none). -/
def glossatorlaw3_QuerylangCompile.f (k : Nat) (a0_0 : Int) (l0_1 : List (List (S160))) (a1_0 : Int) (a1_1 : Int) (a1_2 : Int) (l2 : List (S31)) : Option Bool :=
  (glossatorlaw3_queryExample.f k).bind fun q => if q = true then
    (querylang_Check.f k a0_0 l0_1).bind fun e => if l0_1.length ≤ 11728124029610 ∧ l0_1.all (fun q => (api_QOp_88.f q).isSome) = true then
      (cmpP l2 k (e == 0) l0_1 a1_0 a1_1 a1_2 []).bind fun p => (glossatorref3_CheckProgram.f k a0_0 l0_1).bind fun e2 => (glossatorref3_EqualValues.f k p.1 (⟨#[]⟩ : ByteArray) [] (⟨#[]⟩ : ByteArray)).bind fun ev =>
        if e2 ≠ 0 ∨ a1_0 ≠ 1 ∨ a1_2 ≠ 0 ∨ a1_1 < 0 ∨ a1_1 ≥ (l0_1.length : Int) then some ((p.2.length == 0) && ev)
        else (execR (refG l2) a1_1 (rdq l0_1 a1_1) zeros24 0 []).bind fun x => (api_QKey.f k p.2 x.2.2).bind fun b => if b = true then
          (glossatorref3_EqualValues.f k p.1 (⟨#[]⟩ : ByteArray) [x.1] (⟨#[]⟩ : ByteArray)).bind fun c => if c = true then some true else none else none
    else none else none
theorem glossatorlaw3_QuerylangCompile.calls (k : Nat) (a0_0 : Int) (A0_1 : Option Addr) (c0_1 : Nat) (l0_1 : List (List (S160))) (a1_0 : Int) (a1_1 : Int) (a1_2 : Int) (A2 : Option Addr) (c2 : Nat) (l2 : List (S31)) (r : Bool) (w : World) (hr0_1 : Kd.C (Kd.slice 160 k160) w A0_1 l0_1.length l0_1) (hc0_1 : l0_1.length ≤ c0_1) (hr2 : Kd.C k31 w A2 l2.length l2) (hc2 : l2.length ≤ c2) (h : glossatorlaw3_QuerylangCompile.f k a0_0 l0_1 a1_0 a1_1 a1_2 l2 = some r) :
    Calls Try.prog 3 #[.agg #[.int .i64 a0_0, .slice A0_1 l0_1.length c0_1], .agg #[.int .i64 a1_0, .int .i64 a1_1, .int .i64 a1_2], .slice A2 l2.length c2] w fun e w' => e = .returned (.bool r) ∧ Below w.heap.size w w' := by
  unfold glossatorlaw3_QuerylangCompile.f at h
  obtain ⟨q, hq, h⟩ := Option.bind_eq_some_iff.1 h
  split at h
  case isFalse => cases h
  next hqt =>
  subst hqt
  obtain ⟨e, hck, h⟩ := Option.bind_eq_some_iff.1 h
  split at h
  case isFalse => cases h
  next hl =>
  obtain ⟨⟨nums, keys⟩, hcm, h⟩ := Option.bind_eq_some_iff.1 h
  obtain ⟨e2, hck2, h⟩ := Option.bind_eq_some_iff.1 h
  obtain ⟨ev, hev, h⟩ := Option.bind_eq_some_iff.1 h
  dsimp only at hev h
  refine law_calls k a0_0 A0_1 c0_1 l0_1 a1_0 a1_1 a1_2 A2 c2 l2 r w hr0_1 hc0_1 hr2 hc2 hq e hck hl.1 (fun q hq => Option.isSome_iff_exists.1 (List.all_eq_true.1 hl.2 q hq)) nums keys hcm e2 hck2 ev hev ?_ ?_
  · intro d0 d1 d2 d3 d4
    rw [if_neg (by omega)] at h
    obtain ⟨⟨n, bb, keys2⟩, hx, h⟩ := Option.bind_eq_some_iff.1 h
    obtain ⟨b, hb, h⟩ := Option.bind_eq_some_iff.1 h
    dsimp only at hb h
    split at h
    case isFalse => cases h
    next hbt =>
    subst hbt
    obtain ⟨c, hc, h⟩ := Option.bind_eq_some_iff.1 h
    split at h
    case isFalse => cases h
    next hct =>
    subst hct
    injection h with h
    exact ⟨h.symm, n, bb, keys2, hx, hb, hc⟩
  · intro d
    rw [if_pos d] at h
    injection h with h
    exact h.symm
end

end Go.Proofs.Ytglckkkjfcomlaa.QQuerylangCompile
