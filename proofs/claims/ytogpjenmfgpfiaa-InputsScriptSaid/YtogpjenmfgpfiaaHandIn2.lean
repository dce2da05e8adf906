/-
  InputsScript: Get, maps.Clone, Fork.
-/
import Derived.Test.YtogpjenmfgpfiaaHandIn1
namespace Go.Proofs.Ytogpjenmfgpfiaa.QInputsScript
open Go.RowKit Go.Proofs.YtogpjenmfgpfiaaW.PrintWords Go.Proofs.YtogpjenmfgpfiaaW.PrintLast Go.Proofs.YtogpjenmfgpfiaaW.PrintMore Go.Proofs.Ytogpjenmfgpfiaa.Hand
attribute [local go_sem] max2_int min2_int max_two min_two max_three min_three max_four min_four
set_option linter.unusedVariables false
set_option linter.unusedSimpArgs false
theorem mget_mem {κ β : Type} [DecidableEq κ] {m : List (κ × β)} {x : κ} {v : β} (h : mget m x = some v) : (x, v) ∈ m := by
  induction m with
  | nil => cases h
  | cons p t ih =>
    rw [mget] at h
    by_cases c : p.1 = x
    · rw [if_pos c] at h
      injection h with h
      subst h c
      exact List.mem_cons_self
    · rw [if_neg c] at h
      exact List.mem_cons_of_mem _ (ih h)
/-- The input at a key. -/
def getP (m : List (S34 × In)) (x : S34) : In := (mget m x).getD zIn
def lookR (mr : List (S34 × InR)) (x : S34) : InR := (mget mr x).getD zInR
theorem lookR_v (mr : List (S34 × InR)) (x : S34) : (lookR mr x).v = getP (mr.map (fun p => (p.1, p.2.v))) x := by
  unfold lookR getP
  rw [mget_map]
  cases mget mr x <;> rfl
theorem lookR_enc (mr : List (S34 × InR)) (x : S34) : (mget (mr.map (fun p => (p.1, p.2.enc))) x).getD zInR.enc = (lookR mr x).enc := by
  unfold lookR
  rw [mget_map]
  cases mget mr x <;> rfl
theorem lookR_ok {W : World} {mr : List (S34 × InR)} (h : ∀ p ∈ mr, InOK W p.2) (x : S34) : InOK W (lookR mr x) := by
  unfold lookR
  cases e : mget mr x with
  | none => exact Kd.R_nil _ _ _ _ _
  | some v => exact h _ (mget_mem e)
theorem zero84 (W : World) : (zeroValue 84).run Try.prog W = .ok zInR.enc W := by kernel_rfl
theorem look_run {W : World} {mb : Nat} {mr : List (S34 × InR)} (h : MapIs encK W mb (mr.map (fun p => (p.1, p.2.enc)))) (x : S34) : (Instr.lookup 80 (.map (some mb)) (encK x) false).run Try.prog W = .ok (lookR mr x).enc W := by
  rw [h.lookup keyLaw34 Try.underlying80 (zero84 W) x false, lookR_enc]
  rfl
theorem getP_ok {m : List (S34 × In)} (h : ∀ p ∈ m, DOK p.2) (x : S34) : DOK (getP m x) := by
  unfold getP
  cases e : mget m x with
  | none => exact ⟨by decide, by decide, by decide⟩
  | some v => exact h _ (mget_mem e)
theorem clone_f (l : List Int) (a : ByteArray) (h : l.length < 17592186044416) : inputs_clone.f l a = some (l, a) := by
  unfold inputs_clone.f slices_Clone_int_int.f
  rw [if_pos (by simpa using h)]
  rfl
set_option maxRecDepth 100000 in
set_option maxHeartbeats 8000000 in
theorem get_calls {sb mb : Nat} {st : St} {w : World} (h : StI sb mb st w) (x : S34) : Calls Try.prog 14 #[.pointer (some ⟨sb, 0, none⟩), .agg #[.int .i64 x.f0, .int .i64 x.f1, .int .i64 x.f2]] w fun e w' =>
    ∃ A c, e = .returned (.tuple #[.agg #[.slice A (getP st.m x).nums.length c, .string (getP st.m x).text], .int .i64 (getP st.m x).chg, .int .i64 (getP st.m x).dur]) ∧ (getP st.m x).nums.length ≤ c ∧ Kd.C (Kd.int .i64) w' A (getP st.m x).nums.length (getP st.m x).nums ∧ Below w.heap.size w w' := by
  have HI := Aside0.mk h
  obtain ⟨_, _, _, _, c4⟩ := h.cells
  obtain ⟨mr, hm, hsb, hmap, hin, hok⟩ := h
  have hlk := look_run hmap x
  have hri := lookR_ok hin x
  have hdk := getP_ok hok x
  have hv : (lookR mr x).v = getP st.m x := by rw [lookR_v, hm]
  rw [← hv] at hdk ⊢
  obtain ⟨r, hr⟩ : ∃ r, lookR mr x = r := ⟨_, rfl⟩
  rw [hr] at hlk hri hdk ⊢
  have HL := Aside0.mk (show ∀ X, Below w.heap.size w X → (X.cell? ⟨sb, 4, none⟩ = some (.map (some mb)) ∧ (Instr.lookup 80 (.map (some mb)) (.agg #[.int .i64 x.f0, .int .i64 x.f1, .int .i64 x.f2]) false).run Try.prog X = .ok (.agg #[.slice r.A r.v.nums.length r.c, .string r.v.text, .int .i64 r.v.chg, .int .i64 r.v.dur]) X) from fun X hX =>
    ⟨(hX.cell (World.block_lt_of_cell? _ _ c4)).trans c4, by rw [← hr]; exact look_run (hmap.below hX hmap.lt) x⟩)
  have HDK := Aside0.mk hdk
  have HRI := Aside0.mk hri
  clear hm hsb hmap hin hok hlk hri hdk hv c4 hr
  have hu34 := Try.underlying34
  have hu36 := Try.underlying36
  have hu84 := Try.underlying84
  go_enter Try.func14, Try.ntmps14
  go_upto_region 1 with (fail)
  obtain ⟨W1, hW1⟩ : ∃ W1, (w.alloc (.cells #[.int .i64 x.f0, .int .i64 x.f1, .int .i64 x.f2] 34)).alloc (.cells #[.slice none 0 0, .string (⟨#[]⟩ : ByteArray)] 36) = W1 := ⟨_, rfl⟩
  have hb1 : Below w.heap.size w W1 := by rw [← hW1]; exact below_alloc (below_alloc (Below.refl _ _) _) _
  have hk1 : W1.heap[w.heap.size]? = some (.cells #[.int .i64 x.f0, .int .i64 x.f1, .int .i64 x.f2] 34 (0, 0)) := by rw [← hW1]; exact hb_alloc (hb_new _ _)
  have hr1 : W1.heap[w.heap.size + 1]? = some (.cells #[.slice none 0 0, .string (⟨#[]⟩ : ByteArray)] 36 (0, 0)) := by
    rw [← hW1]
    have := hb_new (w.alloc (.cells #[.int .i64 x.f0, .int .i64 x.f1, .int .i64 x.f2] 34)) (.cells #[.slice none 0 0, .string (⟨#[]⟩ : ByteArray)] 36)
    rwa [World.size_alloc] at this
  rw [hW1]
  clear hW1
  have HS := Aside0.mk (show ∀ X, Below W1.heap.size W1 X → (X.cell? ⟨sb, 4, none⟩ = some (.map (some mb)) ∧ X.cell? ⟨w.heap.size, 0, none⟩ = some (.int .i64 x.f0) ∧ X.cell? ⟨w.heap.size, 1, none⟩ = some (.int .i64 x.f1) ∧ X.cell? ⟨w.heap.size, 2, none⟩ = some (.int .i64 x.f2) ∧ (Instr.lookup 80 (.map (some mb)) (.agg #[.int .i64 x.f0, .int .i64 x.f1, .int .i64 x.f2]) false).run Try.prog X = .ok (.agg #[.slice r.A r.v.nums.length r.c, .string r.v.text, .int .i64 r.v.chg, .int .i64 r.v.dur]) X) from fun X hX => by
    have hk := (hX.block _ (lt_of_blk hk1)).trans hk1
    obtain ⟨q1, q2⟩ := HL.out X (hb1.trans (hX.mono hb1.size))
    exact ⟨q1, (cells_of_blk hk 0).trans rfl, (cells_of_blk hk 1).trans rfl, (cells_of_blk hk 2).trans rfl, q2⟩)
  have HB1 := Aside0.mk hb1
  have HR1 := Aside0.mk hr1
  clear hb1 hk1 hr1
  refine start_ (n := 8) (S := fun w' => w'.cell? ⟨sb, 4, none⟩ = some (.map (some mb)) ∧ w'.cell? ⟨w.heap.size, 0, none⟩ = some (.int .i64 x.f0) ∧ w'.cell? ⟨w.heap.size, 1, none⟩ = some (.int .i64 x.f1) ∧ w'.cell? ⟨w.heap.size, 2, none⟩ = some (.int .i64 x.f2) ∧ (Instr.lookup 80 (.map (some mb)) (.agg #[.int .i64 x.f0, .int .i64 x.f1, .int .i64 x.f2]) false).run Try.prog w' = .ok (.agg #[.slice r.A r.v.nums.length r.c, .string r.v.text, .int .i64 r.v.chg, .int .i64 r.v.dur]) w') (ds := [7]) #[false, false, false, false, false, false, false, false] (by kernel_rfl) rfl rfl (HS.out _ (below_drew1 (Below.refl _ _))) (fun hHeld => ?_)
  refine pure_ (i := 0) (N := some 8) (v := ?_) (a' := ?_) #[true, false, false, false, false, false, false, false] rfl rfl (by kernel_rfl) (fun _ _ _ h => h) (Or.inl ⟨by rfl, ?_⟩) ?_ ?_
  rotate_left
  · intro w'
    go_simp
    with_reducible rfl
  rotate_left
  · simp only [Act.put, List.setIfInBounds_toArray, List.set_cons_zero, List.set_cons_succ, i64_w, i32_w]
    rfl
  refine pure_ (i := 1) (N := some 9) (v := ?_) (a' := ?_) #[true, true, false, false, false, false, false, false] rfl rfl (by kernel_rfl) (fun _ _ _ h => h) (Or.inl ⟨by rfl, ?_⟩) ?_ ?_
  rotate_left
  · intro w'
    go_simp
    with_reducible rfl
  rotate_left
  · simp only [Act.put, List.setIfInBounds_toArray, List.set_cons_zero, List.set_cons_succ, i64_w, i32_w]
    rfl
  refine pure_ (i := 2) (N := some 10) (v := ?_) (a' := ?_) #[true, true, true, false, false, false, false, false] rfl rfl (by kernel_rfl) (fun _ _ _ h => h) (Or.inl ⟨by rfl, ?_⟩) ?_ ?_
  rotate_left
  · intro w'
    go_simp
    with_reducible rfl
  rotate_left
  · simp only [Act.put, List.setIfInBounds_toArray, List.set_cons_zero, List.set_cons_succ, i64_w, i32_w]
    rfl
  refine take_ (i := 3) (N := some 11) (v := ?_) (a' := ?_) #[true, true, true, true, false, false, false, false] rfl rfl (by kernel_rfl) (fun _ _ _ h => h) (Or.inl ⟨by rfl, ?_⟩) hHeld ?_ ?_
  rotate_left
  · rintro w' ⟨s0_, s1_, s2_, s3_, s4_⟩
    go_simp
    with_reducible rfl
  rotate_left
  · simp only [Act.put, List.setIfInBounds_toArray, List.set_cons_zero, List.set_cons_succ, i64_w, i32_w]
    rfl
  refine take_ (i := 4) (N := some 12) (v := ?_) (a' := ?_) #[true, true, true, true, true, false, false, false] rfl rfl (by kernel_rfl) (fun _ _ _ h => h) (Or.inl ⟨by rfl, ?_⟩) hHeld ?_ ?_
  rotate_left
  · rintro w' ⟨s0_, s1_, s2_, s3_, s4_⟩
    go_simp
    with_reducible rfl
  rotate_left
  · simp only [Act.put, List.setIfInBounds_toArray, List.set_cons_zero, List.set_cons_succ, i64_w, i32_w]
    rfl
  refine take_ (i := 5) (N := some 13) (v := ?_) (a' := ?_) #[true, true, true, true, true, true, false, false] rfl rfl (by kernel_rfl) (fun _ _ _ h => h) (Or.inl ⟨by rfl, ?_⟩) hHeld ?_ ?_
  rotate_left
  · rintro w' ⟨s0_, s1_, s2_, s3_, s4_⟩
    go_simp
    with_reducible rfl
  rotate_left
  · simp only [Act.put, List.setIfInBounds_toArray, List.set_cons_zero, List.set_cons_succ, i64_w, i32_w]
    rfl
  refine one_ (i := 6) (N := some 7) #[true, true, true, true, true, true, true, false] rfl rfl (by kernel_rfl) (by decide) (fun K hK => ?_)
  refine value_ (v := .pointer (some ⟨W1.heap.size, 0, none⟩)) (w1 := W1.drew.alloc (.cells #[.slice none 0 0, .string (⟨#[]⟩ : ByteArray), .int .i64 0, .int .i64 0] 84)) (by rfl) rfl ?_ ?_
  · go_simp
  refine hK.out _ _ (HS.out _ (below_alloc (below_drew1 (Below.refl _ _)) _)) (fun hHeld => ?_)
  clear hK K
  refine norm_ (a' := ?_) ?_ ?_
  rotate_left
  · show Act.put _ (some 7) _ = _
    simp only [Act.put, List.setIfInBounds_toArray, List.set_cons_zero, List.set_cons_succ, i64_w, i32_w]
    rfl
  refine last_ (i := 7) (N := none) #[true, true, true, true, true, true, true, true] rfl rfl (by kernel_rfl) (by decide) (fun K hK => ?_)
  refine skip_ (w1 := ?_) (by rfl) rfl ?_ ?_
  rotate_left
  · go_simp
    rfl
  refine hK.out _ _ (done_ (by kernel_rfl) ?_)
  clear hK K
  clear hHeld
  obtain ⟨W3, hW3⟩ : ∃ W3, (W1.alloc (.cells #[.slice r.A r.v.nums.length r.c, .string r.v.text, .int .i64 r.v.chg, .int .i64 r.v.dur] 84)).drew = W3 := ⟨_, rfl⟩
  have hb3 : Below W1.heap.size W1 W3 := by rw [← hW3]; exact below_drew1 (below_alloc (Below.refl _ _) _)
  have hx3 : W3.heap[W1.heap.size]? = some (.cells #[.slice r.A r.v.nums.length r.c, .string r.v.text, .int .i64 r.v.chg, .int .i64 r.v.dur] 84 (0, 0)) := by rw [← hW3]; exact hb_new W1 _
  rw [hW3]
  clear hW3
  have hr3 := (hb3.block _ (lt_of_blk HR1.out)).trans HR1.out
  have HB3 := Aside0.mk (HB1.out.trans (hb3.mono HB1.out.size))
  have HX3 := Aside0.mk hx3
  have HR3 := Aside0.mk hr3
  have HS3 := Aside0.mk (show ∀ X, Below W3.heap.size W3 X → (X.cell? ⟨W1.heap.size, 0, none⟩ = some (.slice r.A r.v.nums.length r.c) ∧ X.cell? ⟨W1.heap.size, 1, none⟩ = some (.string r.v.text) ∧ X.cell? ⟨W1.heap.size, 2, none⟩ = some (.int .i64 r.v.chg) ∧ X.cell? ⟨W1.heap.size, 3, none⟩ = some (.int .i64 r.v.dur)) from fun X hX => by
    have hk := (hX.block _ (lt_of_blk hx3)).trans hx3
    exact ⟨(cells_of_blk hk 0).trans rfl, (cells_of_blk hk 1).trans rfl, (cells_of_blk hk 2).trans rfl, (cells_of_blk hk 3).trans rfl⟩)
  clear hb3 hx3 hr3
  go_upto_region 2 with (fail)
  refine start_ (n := 10) (S := fun w' => w'.cell? ⟨W1.heap.size, 0, none⟩ = some (.slice r.A r.v.nums.length r.c) ∧ w'.cell? ⟨W1.heap.size, 1, none⟩ = some (.string r.v.text) ∧ w'.cell? ⟨W1.heap.size, 2, none⟩ = some (.int .i64 r.v.chg) ∧ w'.cell? ⟨W1.heap.size, 3, none⟩ = some (.int .i64 r.v.dur)) (ds := ([] : List Nat)) #[false, false, false, false, false, false, false, false, false, false] (by kernel_rfl) rfl rfl (HS3.out _ (below_drew1 (Below.refl _ _))) (fun hHeld => ?_)
  refine pure_ (i := 0) (N := some 14) (v := ?_) (a' := ?_) #[true, false, false, false, false, false, false, false, false, false] rfl rfl (by kernel_rfl) (fun _ _ _ h => h) (Or.inl ⟨by rfl, ?_⟩) ?_ ?_
  rotate_left
  · intro w'
    go_simp
    with_reducible rfl
  rotate_left
  · simp only [Act.put, List.setIfInBounds_toArray, List.set_cons_zero, List.set_cons_succ, i64_w, i32_w]
    rfl
  refine take_ (i := 1) (N := some 15) (v := ?_) (a' := ?_) #[true, true, false, false, false, false, false, false, false, false] rfl rfl (by kernel_rfl) (fun _ _ _ h => h) (Or.inl ⟨by rfl, ?_⟩) hHeld ?_ ?_
  rotate_left
  · rintro w' ⟨s0_, s1_, s2_, s3_⟩
    go_simp
    with_reducible rfl
  rotate_left
  · simp only [Act.put, List.setIfInBounds_toArray, List.set_cons_zero, List.set_cons_succ, i64_w, i32_w]
    rfl
  refine pure_ (i := 3) (N := some 17) (v := ?_) (a' := ?_) #[true, true, false, true, false, false, false, false, false, false] rfl rfl (by kernel_rfl) (fun _ _ _ h => h) (Or.inl ⟨by rfl, ?_⟩) ?_ ?_
  rotate_left
  · intro w'
    go_simp
    with_reducible rfl
  rotate_left
  · simp only [Act.put, List.setIfInBounds_toArray, List.set_cons_zero, List.set_cons_succ, i64_w, i32_w]
    rfl
  refine take_ (i := 4) (N := some 18) (v := ?_) (a' := ?_) #[true, true, false, true, true, false, false, false, false, false] rfl rfl (by kernel_rfl) (fun _ _ _ h => h) (Or.inl ⟨by rfl, ?_⟩) hHeld ?_ ?_
  rotate_left
  · rintro w' ⟨s0_, s1_, s2_, s3_⟩
    go_simp
    with_reducible rfl
  rotate_left
  · simp only [Act.put, List.setIfInBounds_toArray, List.set_cons_zero, List.set_cons_succ, i64_w, i32_w]
    rfl
  refine pure_ (i := 5) (N := some 19) (v := ?_) (a' := ?_) #[true, true, false, true, true, true, false, false, false, false] rfl rfl (by kernel_rfl) (fun _ _ _ h => h) (Or.inl ⟨by rfl, ?_⟩) ?_ ?_
  rotate_left
  · intro w'
    go_simp
    with_reducible rfl
  rotate_left
  · simp only [Act.put, List.setIfInBounds_toArray, List.set_cons_zero, List.set_cons_succ, i64_w, i32_w]
    rfl
  refine take_ (i := 6) (N := some 20) (v := ?_) (a' := ?_) #[true, true, false, true, true, true, true, false, false, false] rfl rfl (by kernel_rfl) (fun _ _ _ h => h) (Or.inl ⟨by rfl, ?_⟩) hHeld ?_ ?_
  rotate_left
  · rintro w' ⟨s0_, s1_, s2_, s3_⟩
    go_simp
    with_reducible rfl
  rotate_left
  · simp only [Act.put, List.setIfInBounds_toArray, List.set_cons_zero, List.set_cons_succ, i64_w, i32_w]
    rfl
  refine one_ (i := 2) (N := some 16) #[true, true, true, true, true, true, true, false, false, false] rfl rfl (by kernel_rfl) (by decide) (fun K hK => ?_)
  refine goes_ Try.func41 (by kernel_rfl) rfl #[.agg #[.slice r.A r.v.nums.length r.c, .string r.v.text]] (by rfl) rfl rfl (by (try simp only [List.map_toArray, List.map_cons, List.map_nil]); first | done | rfl) ?_
  refine (inputs_clone.calls r.A r.c r.v.nums r.v.text r.v.nums r.v.text _ (HRI.out.below (below_drew1 HB3.out)).reads HRI.out.cap (clone_f _ _ HDK.out.2.2)).mono ?_
  rintro e w4 ⟨v0, rfl, hR4, hb4⟩
  refine ⟨_, rfl, ?_⟩
  obtain ⟨A4, c4, hv4⟩ := Kd.R_slice hR4
  subst hv4
  have hb34 : Below W3.heap.size W3 w4 := (below_drew1 (Below.refl W3.heap.size W3)).trans hb4
  have HB4 := Aside0.mk hb34
  have HR4 := Aside0.mk hR4
  have HX4 := Aside0.mk ((hb34.block _ (lt_of_blk HR3.out)).trans HR3.out)
  clear hR4 hb4 hb34
  refine hK.out _ _ (HS3.out _ HB4.out) (fun hHeld => ?_)
  clear hK K
  refine norm_ (a' := ?_) ?_ ?_
  rotate_left
  · show Act.put _ (some 16) _ = _
    simp only [Act.put, List.setIfInBounds_toArray, List.set_cons_zero, List.set_cons_succ, i64_w, i32_w]
    rfl
  have HSS := Aside0.mk (show (((w4.setCell ⟨w.heap.size + 1, 0, none⟩ (.slice A4 r.v.nums.length c4)).setCell ⟨w.heap.size + 1, 1, none⟩ (.string r.v.text)).cell? ⟨W1.heap.size, 0, none⟩ = some (.slice r.A r.v.nums.length r.c) ∧ ((w4.setCell ⟨w.heap.size + 1, 0, none⟩ (.slice A4 r.v.nums.length c4)).setCell ⟨w.heap.size + 1, 1, none⟩ (.string r.v.text)).cell? ⟨W1.heap.size, 1, none⟩ = some (.string r.v.text) ∧ ((w4.setCell ⟨w.heap.size + 1, 0, none⟩ (.slice A4 r.v.nums.length c4)).setCell ⟨w.heap.size + 1, 1, none⟩ (.string r.v.text)).cell? ⟨W1.heap.size, 2, none⟩ = some (.int .i64 r.v.chg) ∧ ((w4.setCell ⟨w.heap.size + 1, 0, none⟩ (.slice A4 r.v.nums.length c4)).setCell ⟨w.heap.size + 1, 1, none⟩ (.string r.v.text)).cell? ⟨W1.heap.size, 3, none⟩ = some (.int .i64 r.v.dur)) from by
    have h4 := (HB4.out.block _ (lt_of_blk HX3.out)).trans HX3.out
    have hne : W1.heap.size ≠ w.heap.size + 1 := by have := lt_of_blk HR1.out; omega
    have hk := hb_far (hb_far h4 (p := ⟨w.heap.size + 1, 0, none⟩) hne (.slice A4 r.v.nums.length c4)) (p := ⟨w.heap.size + 1, 1, none⟩) hne (.string r.v.text)
    exact ⟨(cells_of_blk hk 0).trans rfl, (cells_of_blk hk 1).trans rfl, (cells_of_blk hk 2).trans rfl, (cells_of_blk hk 3).trans rfl⟩)
  refine one_ (i := 7) (N := none) #[true, true, true, true, true, true, true, true, false, false] rfl rfl (by kernel_rfl) (by decide) (fun K hK => ?_)
  have s0 : w4.cell? ⟨w.heap.size + 1, 0, none⟩ = some (.slice none 0 0) := (cells_of_blk HX4.out 0).trans rfl
  have s1 : w4.cell? ⟨w.heap.size + 1, 1, none⟩ = some (.string (⟨#[]⟩ : ByteArray)) := (cells_of_blk HX4.out 1).trans rfl
  have f0 := free_of_blk HX4.out 0
  have f1 := free_of_blk HX4.out 1
  refine skip_ (w1 := ?_) (by rfl) rfl ?_ ?_
  rotate_left
  · go_simp
    rfl
  clear s0 s1 f0 f1
  refine hK.out _ _ (HSS.out) (fun hHeld => ?_)
  clear hK K
  clear HSS
  refine pure_ (i := 8) (N := some 5) (v := ?_) (a' := ?_) #[true, true, true, true, true, true, true, true, true, false] rfl rfl (by kernel_rfl) (fun _ _ _ h => h) (Or.inl ⟨by rfl, ?_⟩) ?_ ?_
  rotate_left
  · intro w'
    go_simp
    with_reducible rfl
  rotate_left
  · simp only [Act.put, List.setIfInBounds_toArray, List.set_cons_zero, List.set_cons_succ, i64_w, i32_w]
    rfl
  refine pure_ (i := 9) (N := some 6) (v := ?_) (a' := ?_) #[true, true, true, true, true, true, true, true, true, true] rfl rfl (by kernel_rfl) (fun _ _ _ h => h) (Or.inl ⟨by rfl, ?_⟩) ?_ ?_
  rotate_left
  · intro w'
    go_simp
    with_reducible rfl
  rotate_left
  · simp only [Act.put, List.setIfInBounds_toArray, List.set_cons_zero, List.set_cons_succ, i64_w, i32_w]
    rfl
  refine done_ (by kernel_rfl) ?_
  go_wp2
  try simp only [Exit.inBlock, Exit.then]
  refine bodyPost_ret (results_ctt (d := _) rfl _ _ (w.heap.size + 1) 36 #[.slice A4 r.v.nums.length c4, .string r.v.text] (0, 0) rfl (hb_set (hb_set HX4.out 0 _) 1 _) Try.underlying36 rfl (by kernel_rfl)) rfl ?_
  have hn : ∀ X : World, ∀ p : Addr, p.block = w.heap.size + 1 → ∀ u, Chg (fun k => k < W3.heap.size) X (X.setCell p u) := fun X p hp u => Chg.set X p u (by rw [hp]; exact lt_of_blk HR3.out)
  obtain ⟨_, hc4, _⟩ := Kd.R_reads' HR4.out
  have hfin : Kd.R (Kd.int .i64) 3 ((w4.setCell ⟨w.heap.size + 1, 0, none⟩ (.slice A4 r.v.nums.length c4)).setCell ⟨w.heap.size + 1, 1, none⟩ (.string r.v.text)) W3.drew.heap.size (fun k => True ∧ W3.drew.heap.size ≤ k ∧ k < w4.heap.size ∧ ∃ q, q ∈ 3 :: (Kd.int .i64).E ∧ ∃ cells, w4.heap[k]? = some (.cells cells q (0, 0))) (.slice A4 r.v.nums.length c4) r.v.nums :=
    Kd.R_step (Kd.R_bound HR4.out) (fun k hk hlt => ((hn w4 ⟨w.heap.size + 1, 0, none⟩ rfl _).trans (hn _ ⟨w.heap.size + 1, 1, none⟩ rfl _) (fun _ _ e => e)).block k hlt (by have : W3.heap.size ≤ k := hk.2.1; omega))
  have hbb := HB3.out.trans (HB4.out.mono HB3.out.size)
  exact ⟨A4, c4, rfl, hc4, (Kd.R_reads' hfin).2.2, (hbb.setCell (by show w.heap.size ≤ w.heap.size + 1; omega) _).setCell (by show w.heap.size ≤ w.heap.size + 1; omega) _⟩
end Go.Proofs.Ytogpjenmfgpfiaa.QInputsScript
