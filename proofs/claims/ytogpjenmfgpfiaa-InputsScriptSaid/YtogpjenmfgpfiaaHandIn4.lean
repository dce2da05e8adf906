/-
  InputsScript: Set.
-/
import Derived.Test.YtogpjenmfgpfiaaHandIn3
import Derived.Test.YtogpjenmfgpfiaaAid
import Derived.Outline
namespace Go.Proofs.Ytogpjenmfgpfiaa.QInputsScript
open Go.RowKit Go.Proofs.YtogpjenmfgpfiaaW.PrintWords Go.Proofs.YtogpjenmfgpfiaaW.PrintLast Go.Proofs.YtogpjenmfgpfiaaW.PrintMore Go.Proofs.Ytogpjenmfgpfiaa.Hand Go.Proofs.Ytogpjenmfgpfiaa.Aid
attribute [local go_sem] max2_int min2_int max_two min_two max_three min_three max_four min_four
set_option linter.unusedVariables false
set_option linter.unusedSimpArgs false
theorem eqgo (l0 l1 : List Int) (hl : l0.length ≤ 9223372036854775807) (h : l0.length = l1.length) : ∀ (d i : Nat), i + d = l0.length → (∀ j, j < i → l0[j]? = l1[j]?) → ∃ k, slices_Equal_int_int.l0 k l0 l1 (l0.length : Int) (i : Int) = some (decide (l0 = l1))
  | 0, i, hi, hp => by
    refine ⟨1, ?_⟩
    simp only [slices_Equal_int_int.l0]
    rw [if_neg (by omega)]
    have : l0 = l1 := List.ext_getElem? (fun j => by
      by_cases c : j < i
      · exact hp j c
      · rw [List.getElem?_eq_none (by omega), List.getElem?_eq_none (by omega)])
    rw [decide_eq_true this]
  | d + 1, i, hi, hp => by
    have h0 : rd l0 (i : Int) = l0[i]'(by omega) := by simp [rd, List.getD_eq_getElem?_getD]; rw [List.getElem?_eq_getElem (by omega)]; rfl
    have h1 : rd l1 (i : Int) = l1[i]'(by omega) := by simp [rd, List.getD_eq_getElem?_getD]; rw [List.getElem?_eq_getElem (by omega)]; rfl
    by_cases c : l0[i]'(by omega) = l1[i]'(by omega)
    · obtain ⟨k, hk⟩ := eqgo l0 l1 hl h d (i + 1) (by omega) (fun j hj => by
        by_cases e : j = i
        · subst e; rw [List.getElem?_eq_getElem (by omega), List.getElem?_eq_getElem (by omega), c]
        · exact hp j (by omega))
      refine ⟨k + 1, ?_⟩
      simp only [slices_Equal_int_int.l0]
      rw [if_pos (by omega), if_pos (by omega), if_pos (by omega), if_pos (by omega), h0, h1]
      simp only [c, ne_eq, not_true_eq_false, if_false, if_true]
      rw [wrap_id (by omega) (by omega)]
      exact_mod_cast hk
    · refine ⟨1, ?_⟩
      simp only [slices_Equal_int_int.l0]
      rw [if_pos (by omega), if_pos (by omega), if_pos (by omega), if_pos (by omega), h0, h1]
      have : l0 ≠ l1 := fun e => c (by subst e; rfl)
      rw [decide_eq_false this]
      simp [c]
theorem eq_f (l0 : List Int) (a0 : ByteArray) (l1 : List Int) (a1 : ByteArray) (hl : l0.length ≤ 9223372036854775807) : ∃ k, inputs_Equal.f k l0 a0 l1 a1 = some (valEq l0 a0 l1 a1) := by
  unfold inputs_Equal.f valEq
  by_cases c : a0.toList = a1.toList
  · by_cases h : l0.length = l1.length
    · obtain ⟨k, hk⟩ := eqgo l0 l1 hl h l0.length 0 (by omega) (fun j hj => by omega)
      refine ⟨k, ?_⟩
      rw [if_pos c]
      unfold slices_Equal_int_int.f
      rw [if_pos (by omega), show (0 : Int) = ((0 : Nat) : Int) from rfl, hk, Option.bind_some]
      congr 1
      rw [Bool.eq_iff_iff]
      simp [c]
    · refine ⟨0, ?_⟩
      rw [if_pos c]
      unfold slices_Equal_int_int.f
      rw [if_neg (by omega), Option.bind_some, decide_eq_false]
      rintro ⟨_, e⟩
      exact h (by rw [e])
  · refine ⟨0, ?_⟩
    rw [if_neg c, decide_eq_false]
    exact fun e => c e.1
/-- What Set does. -/
def bump (rev l : Int) (j M : Int) : Int := if j ≤ M then rev + 1 else l
def setP (st : St) (k : S34) (nums : List Int) (text : ByteArray) (d : Int) : Bool × Int × St :=
  if k.f0 ≠ 0 then (false, 7, st)
  else if d < 0 ∨ d ≥ 3 then (false, 1, st)
  else if (getP st.m k).dur = d ∧ valEq (getP st.m k).nums (getP st.m k).text nums text = true then (false, 0, st)
  else (true, 0, ⟨st.rev + 1, bump st.rev st.l0 0 (mx (getP st.m k).dur d), bump st.rev st.l1 1 (mx (getP st.m k).dur d), bump st.rev st.l2 2 (mx (getP st.m k).dur d), mset st.m k ⟨nums, text, st.rev + 1, d⟩⟩)
theorem mset_mem {κ β : Type} [DecidableEq κ] {m : List (κ × β)} {x : κ} {v : β} {p : κ × β} (h : p ∈ mset m x v) : p ∈ m ∨ p = (x, v) := by
  induction m with
  | nil => rw [mset, List.mem_singleton] at h; exact .inr h
  | cons q t ih =>
    rw [mset] at h
    by_cases c : q.1 = x
    · rw [if_pos c] at h
      rcases List.mem_cons.1 h with h | h
      · exact .inr h
      · exact .inl (List.mem_cons_of_mem _ h)
    · rw [if_neg c] at h
      rcases List.mem_cons.1 h with h | h
      · exact .inl (by rw [h]; exact List.mem_cons_self)
      · exact (ih h).imp (List.mem_cons_of_mem _) id
/-- Behind the lookup: the boxes and the store. -/
structure Bx (sb mb : Nat) (st : St) (mr : List (S34 × InR)) (w : World) (kb vb ob : Nat) (k : S34) (A : Option Addr) (c : Nat) (nums : List Int) (text : ByteArray) (r : InR) (rv a0 a1 a2 : Int) (W : World) : Prop where
  kx : W.heap[kb]? = some (.cells #[.int .i64 k.f0, .int .i64 k.f1, .int .i64 k.f2] 34 (0, 0))
  vx : W.heap[vb]? = some (.cells #[.slice A nums.length c, .string text] 36 (0, 0))
  ox : W.heap[ob]? = some (.cells #[.slice r.A r.v.nums.length r.c, .string r.v.text, .int .i64 r.v.chg, .int .i64 r.v.dur] 84 (0, 0))
  sx : W.heap[sb]? = some (.cells #[.int .i64 rv, .int .i64 a0, .int .i64 a1, .int .i64 a2, .map (some mb)] 82 (0, 0))
  mx : MapIs encK W mb (mr.map (fun p => (p.1, p.2.enc)))
  ch : Chg (fun k => k = sb ∨ k = mb) w W
theorem Bx.step {sb mb : Nat} {st : St} {mr : List (S34 × InR)} {w : World} {kb vb ob : Nat} {k : S34} {A : Option Addr} {c : Nat} {nums : List Int} {text : ByteArray} {r : InR} {rv a0 a1 a2 : Int} {W W' : World} (h : Bx sb mb st mr w kb vb ob k A c nums text r rv a0 a1 a2 W) (hb : Below W.heap.size W W') : Bx sb mb st mr w kb vb ob k A c nums text r rv a0 a1 a2 W' :=
  ⟨(hb.block _ (lt_of_blk h.kx)).trans h.kx, (hb.block _ (lt_of_blk h.vx)).trans h.vx, (hb.block _ (lt_of_blk h.ox)).trans h.ox, (hb.block _ (lt_of_blk h.sx)).trans h.sx, h.mx.below hb h.mx.lt, h.ch.trans (Chg.of_new hb) (fun _ _ e => e)⟩
theorem Bx.put {sb mb : Nat} {st : St} {mr : List (S34 × InR)} {w : World} {kb vb ob : Nat} {k : S34} {A : Option Addr} {c : Nat} {nums : List Int} {text : ByteArray} {r : InR} {rv a0 a1 a2 rv' a0' a1' a2' : Int} {W : World} (h : Bx sb mb st mr w kb vb ob k A c nums text r rv a0 a1 a2 W) (i : Nat) (u : Value)
    (he : (#[.int .i64 rv, .int .i64 a0, .int .i64 a1, .int .i64 a2, .map (some mb)] : Array Value).setIfInBounds i u = #[.int .i64 rv', .int .i64 a0', .int .i64 a1', .int .i64 a2', .map (some mb)]) : Bx sb mb st mr w kb vb ob k A c nums text r rv' a0' a1' a2' (W.setCell ⟨sb, i, none⟩ u) := by
  have n1 : kb ≠ sb := by rintro rfl; have := h.kx.symm.trans h.sx; simp at this
  have n2 : vb ≠ sb := by rintro rfl; have := h.vx.symm.trans h.sx; simp at this
  have n3 : ob ≠ sb := by rintro rfl; have := h.ox.symm.trans h.sx; simp at this
  have n4 : mb ≠ sb := h.mx.cells h.sx
  exact ⟨hb_far h.kx n1 _, hb_far h.vx n2 _, hb_far h.ox n3 _, by rw [← he]; exact hb_set h.sx i u, h.mx.move (Below.heap_setCell _ _ _ _ n4), h.ch.trans (Chg.set W ⟨sb, i, none⟩ u (.inl rfl)) (fun _ _ e => e)⟩
set_option maxRecDepth 100000 in
set_option maxHeartbeats 16000000 in
theorem set_calls {sb mb : Nat} {st : St} {w : World} (h : StI sb mb st w) (k : S34) (A : Option Addr) (c : Nat) (nums : List Int) (text : ByteArray) (d : Int) (hC : ∀ X, Chg (fun k => k = sb ∨ k = mb) w X → Kd.C (Kd.int .i64) X A nums.length nums) (hc : nums.length ≤ c) (hlen : nums.length < 17592186044416) (hrev0 : 0 ≤ st.rev) (hrev : st.rev ≤ 1000) :
    Calls Try.prog 11 #[.pointer (some ⟨sb, 0, none⟩), .agg #[.int .i64 k.f0, .int .i64 k.f1, .int .i64 k.f2], .agg #[.slice A nums.length c, .string text], .int .i64 d] w fun e w' =>
      e = .returned (.tuple #[.bool (setP st k nums text d).1, .int .i64 (setP st k nums text d).2.1]) ∧ StI sb mb (setP st k nums text d).2.2 w' ∧ Chg (fun k => k = sb ∨ k = mb) w w' := by
  have HI := Aside0.mk h
  have HC := Aside0.mk hC
  have HCC := Aside0.mk hc
  have HLEN := Aside0.mk hlen
  clear hC hc hlen
  by_cases c1 : k.f0 = 0
  case neg =>
    have b1 : (k.f0 != 0) = true := bne_iff_ne.2 c1
    have e1 : setP st k nums text d = (false, 7, st) := by unfold setP; rw [if_pos c1]
    rw [e1]
    clear h e1 c1
    go_enter Try.func11, Try.ntmps11
    go_wp2
    go_ret2
    have hb := below_alloc (below_alloc (Below.refl w.heap.size w) (.cells #[.int .i64 k.f0, .int .i64 k.f1, .int .i64 k.f2] 34)) (.cells #[.slice A nums.length c, .string text] 36)
    exact ⟨rfl, HI.out.below hb, Chg.of_new hb⟩
  have b1 : (k.f0 != 0) = false := bne_eq_false_iff_eq.2 c1
  by_cases c2 : d < 0
  case pos =>
    have b2 : decide (d < 0) = true := decide_eq_true c2
    have e1 : setP st k nums text d = (false, 1, st) := by unfold setP; rw [if_neg (by omega), if_pos (.inl c2)]
    rw [e1]
    clear h e1 c1 c2
    go_enter Try.func11, Try.ntmps11
    go_wp2
    go_ret2
    have hb := below_alloc (below_alloc (Below.refl w.heap.size w) (.cells #[.int .i64 k.f0, .int .i64 k.f1, .int .i64 k.f2] 34)) (.cells #[.slice A nums.length c, .string text] 36)
    exact ⟨rfl, HI.out.below hb, Chg.of_new hb⟩
  have b2 : decide (d < 0) = false := decide_eq_false c2
  by_cases c3 : d ≥ 3
  case pos =>
    have b3 : decide (d ≥ 3) = true := decide_eq_true c3
    have e1 : setP st k nums text d = (false, 1, st) := by unfold setP; rw [if_neg (by omega), if_pos (.inr c3)]
    rw [e1]
    clear h e1 c1 c2 c3
    go_enter Try.func11, Try.ntmps11
    go_wp2
    go_ret2
    have hb := below_alloc (below_alloc (Below.refl w.heap.size w) (.cells #[.int .i64 k.f0, .int .i64 k.f1, .int .i64 k.f2] 34)) (.cells #[.slice A nums.length c, .string text] 36)
    exact ⟨rfl, HI.out.below hb, Chg.of_new hb⟩
  have b3 : decide (d ≥ 3) = false := decide_eq_false c3
  obtain ⟨_, _, _, _, q4⟩ := h.cells
  obtain ⟨mr, hm, hsb, hmap, hin, hok⟩ := h
  have hlk := look_run hmap k
  have hri := lookR_ok hin k
  have hdk := getP_ok hok k
  have hv : (lookR mr k).v = getP st.m k := by rw [lookR_v, hm]
  have HM := Aside0.mk hm
  have HIN := Aside0.mk hin
  have HOK := Aside0.mk hok
  have e1 : setP st k nums text d = if (lookR mr k).v.dur = d ∧ valEq (lookR mr k).v.nums (lookR mr k).v.text nums text = true then (false, 0, st) else (true, 0, ⟨st.rev + 1, bump st.rev st.l0 0 (mx (lookR mr k).v.dur d), bump st.rev st.l1 1 (mx (lookR mr k).v.dur d), bump st.rev st.l2 2 (mx (lookR mr k).v.dur d), mset st.m k ⟨nums, text, st.rev + 1, d⟩⟩) := by
    unfold setP
    rw [if_neg (by omega), if_neg (by omega), hv]
  rw [e1]
  rw [← hv] at hdk
  obtain ⟨r, hr⟩ : ∃ r, lookR mr k = r := ⟨_, rfl⟩
  rw [hr] at hlk hri hdk ⊢
  obtain ⟨q, hq⟩ : ∃ q, (if r.v.dur = d ∧ valEq r.v.nums r.v.text nums text = true then (false, (0 : Int), st) else (true, 0, ⟨st.rev + 1, bump st.rev st.l0 0 (mx r.v.dur d), bump st.rev st.l1 1 (mx r.v.dur d), bump st.rev st.l2 2 (mx r.v.dur d), mset st.m k ⟨nums, text, st.rev + 1, d⟩⟩) : Bool × Int × St) = q := ⟨_, rfl⟩
  rw [hq]
  have HQ := Aside0.mk hq
  clear hq
  have HL := Aside0.mk (show ∀ X, Below w.heap.size w X → (X.cell? ⟨sb, 4, none⟩ = some (.map (some mb)) ∧ (Instr.lookup 80 (.map (some mb)) (.agg #[.int .i64 k.f0, .int .i64 k.f1, .int .i64 k.f2]) false).run Try.prog X = .ok (.agg #[.slice r.A r.v.nums.length r.c, .string r.v.text, .int .i64 r.v.chg, .int .i64 r.v.dur]) X) from fun X hX =>
    ⟨(hX.cell (World.block_lt_of_cell? _ _ q4)).trans q4, by rw [← hr]; exact look_run (hmap.below hX hmap.lt) k⟩)
  have HDK := Aside0.mk hdk
  have HRI := Aside0.mk hri
  have HSB := Aside0.mk hsb
  have HMAP := Aside0.mk hmap
  clear hm hsb hmap hin hok hlk hri hdk hv q4 hr e1 c1
  have hu34 := Try.underlying34
  have hu36 := Try.underlying36
  have hu84 := Try.underlying84
  go_enter Try.func11, Try.ntmps11
  go_upto_region 5 with (fail)
  obtain ⟨W1, hW1⟩ : ∃ W1, (w.alloc (.cells #[.int .i64 k.f0, .int .i64 k.f1, .int .i64 k.f2] 34)).alloc (.cells #[.slice A nums.length c, .string text] 36) = W1 := ⟨_, rfl⟩
  have hb1 : Below w.heap.size w W1 := by rw [← hW1]; exact below_alloc (below_alloc (Below.refl _ _) _) _
  have hk1 : W1.heap[w.heap.size]? = some (.cells #[.int .i64 k.f0, .int .i64 k.f1, .int .i64 k.f2] 34 (0, 0)) := by rw [← hW1]; exact hb_alloc (hb_new _ _)
  have hr1 : W1.heap[w.heap.size + 1]? = some (.cells #[.slice A nums.length c, .string text] 36 (0, 0)) := by
    rw [← hW1]
    have := hb_new (w.alloc (.cells #[.int .i64 k.f0, .int .i64 k.f1, .int .i64 k.f2] 34)) (.cells #[.slice A nums.length c, .string text] 36)
    rwa [World.size_alloc] at this
  rw [hW1]
  clear hW1
  have HS := Aside0.mk (show ∀ X, Below W1.heap.size W1 X → (X.cell? ⟨sb, 4, none⟩ = some (.map (some mb)) ∧ X.cell? ⟨w.heap.size, 0, none⟩ = some (.int .i64 k.f0) ∧ X.cell? ⟨w.heap.size, 1, none⟩ = some (.int .i64 k.f1) ∧ X.cell? ⟨w.heap.size, 2, none⟩ = some (.int .i64 k.f2) ∧ (Instr.lookup 80 (.map (some mb)) (.agg #[.int .i64 k.f0, .int .i64 k.f1, .int .i64 k.f2]) false).run Try.prog X = .ok (.agg #[.slice r.A r.v.nums.length r.c, .string r.v.text, .int .i64 r.v.chg, .int .i64 r.v.dur]) X) from fun X hX => by
    have hk := (hX.block _ (lt_of_blk hk1)).trans hk1
    obtain ⟨q1, q2⟩ := HL.out X (hb1.trans (hX.mono hb1.size))
    exact ⟨q1, (cells_of_blk hk 0).trans rfl, (cells_of_blk hk 1).trans rfl, (cells_of_blk hk 2).trans rfl, q2⟩)
  have HB1 := Aside0.mk hb1
  have HK1 := Aside0.mk hk1
  have HR1 := Aside0.mk hr1
  clear hb1 hk1 hr1
  refine start_ (n := 8) (S := fun w' => w'.cell? ⟨sb, 4, none⟩ = some (.map (some mb)) ∧ w'.cell? ⟨w.heap.size, 0, none⟩ = some (.int .i64 k.f0) ∧ w'.cell? ⟨w.heap.size, 1, none⟩ = some (.int .i64 k.f1) ∧ w'.cell? ⟨w.heap.size, 2, none⟩ = some (.int .i64 k.f2) ∧ (Instr.lookup 80 (.map (some mb)) (.agg #[.int .i64 k.f0, .int .i64 k.f1, .int .i64 k.f2]) false).run Try.prog w' = .ok (.agg #[.slice r.A r.v.nums.length r.c, .string r.v.text, .int .i64 r.v.chg, .int .i64 r.v.dur]) w') (ds := [7]) #[false, false, false, false, false, false, false, false] (by kernel_rfl) rfl rfl (HS.out _ (below_drew1 (Below.refl _ _))) (fun hHeld => ?_)
  refine pure_ (i := 0) (N := some 21) (v := ?_) (a' := ?_) #[true, false, false, false, false, false, false, false] rfl rfl (by kernel_rfl) (fun _ _ _ h => h) (Or.inl ⟨by rfl, ?_⟩) ?_ ?_
  rotate_left
  · intro w'
    go_simp
    with_reducible rfl
  rotate_left
  · simp only [Act.put, List.setIfInBounds_toArray, List.set_cons_zero, List.set_cons_succ, i64_w, i32_w]
    rfl
  refine pure_ (i := 1) (N := some 22) (v := ?_) (a' := ?_) #[true, true, false, false, false, false, false, false] rfl rfl (by kernel_rfl) (fun _ _ _ h => h) (Or.inl ⟨by rfl, ?_⟩) ?_ ?_
  rotate_left
  · intro w'
    go_simp
    with_reducible rfl
  rotate_left
  · simp only [Act.put, List.setIfInBounds_toArray, List.set_cons_zero, List.set_cons_succ, i64_w, i32_w]
    rfl
  refine pure_ (i := 2) (N := some 23) (v := ?_) (a' := ?_) #[true, true, true, false, false, false, false, false] rfl rfl (by kernel_rfl) (fun _ _ _ h => h) (Or.inl ⟨by rfl, ?_⟩) ?_ ?_
  rotate_left
  · intro w'
    go_simp
    with_reducible rfl
  rotate_left
  · simp only [Act.put, List.setIfInBounds_toArray, List.set_cons_zero, List.set_cons_succ, i64_w, i32_w]
    rfl
  refine take_ (i := 3) (N := some 24) (v := ?_) (a' := ?_) #[true, true, true, true, false, false, false, false] rfl rfl (by kernel_rfl) (fun _ _ _ h => h) (Or.inl ⟨by rfl, ?_⟩) hHeld ?_ ?_
  rotate_left
  · rintro w' ⟨s0_, s1_, s2_, s3_, s4_⟩
    go_simp
    with_reducible rfl
  rotate_left
  · simp only [Act.put, List.setIfInBounds_toArray, List.set_cons_zero, List.set_cons_succ, i64_w, i32_w]
    rfl
  refine take_ (i := 4) (N := some 25) (v := ?_) (a' := ?_) #[true, true, true, true, true, false, false, false] rfl rfl (by kernel_rfl) (fun _ _ _ h => h) (Or.inl ⟨by rfl, ?_⟩) hHeld ?_ ?_
  rotate_left
  · rintro w' ⟨s0_, s1_, s2_, s3_, s4_⟩
    go_simp
    with_reducible rfl
  rotate_left
  · simp only [Act.put, List.setIfInBounds_toArray, List.set_cons_zero, List.set_cons_succ, i64_w, i32_w]
    rfl
  refine take_ (i := 5) (N := some 26) (v := ?_) (a' := ?_) #[true, true, true, true, true, true, false, false] rfl rfl (by kernel_rfl) (fun _ _ _ h => h) (Or.inl ⟨by rfl, ?_⟩) hHeld ?_ ?_
  rotate_left
  · rintro w' ⟨s0_, s1_, s2_, s3_, s4_⟩
    go_simp
    with_reducible rfl
  rotate_left
  · simp only [Act.put, List.setIfInBounds_toArray, List.set_cons_zero, List.set_cons_succ, i64_w, i32_w]
    rfl
  refine one_ (i := 6) (N := some 10) #[true, true, true, true, true, true, true, false] rfl rfl (by kernel_rfl) (by decide) (fun K hK => ?_)
  refine value_ (v := .pointer (some ⟨W1.heap.size, 0, none⟩)) (w1 := W1.drew.alloc (.cells #[.slice none 0 0, .string (⟨#[]⟩ : ByteArray), .int .i64 0, .int .i64 0] 84)) (by rfl) rfl ?_ ?_
  · go_simp
  refine hK.out _ _ (HS.out _ (below_alloc (below_drew1 (Below.refl _ _)) _)) (fun hHeld => ?_)
  clear hK K
  refine norm_ (a' := ?_) ?_ ?_
  rotate_left
  · show Act.put _ (some 10) _ = _
    simp only [Act.put, List.setIfInBounds_toArray, List.set_cons_zero, List.set_cons_succ, i64_w, i32_w]
    rfl
  refine last_ (i := 7) (N := none) #[true, true, true, true, true, true, true, true] rfl rfl (by kernel_rfl) (by decide) (fun K hK => ?_)
  refine skip_ (w1 := ?_) (by rfl) rfl ?_ ?_
  rotate_left
  · go_simp
    rfl
  refine hK.out _ _ (done_ (by kernel_rfl) ?_)
  clear hK K
  clear hHeld
  obtain ⟨W3, hW3⟩ : ∃ W3, (W1.alloc (.cells #[.slice r.A r.v.nums.length r.c, .string r.v.text, .int .i64 r.v.chg, .int .i64 r.v.dur] 84)).drew = W3 := ⟨_, rfl⟩
  have hb3 : Below W1.heap.size W1 W3 := by rw [← hW3]; exact below_drew1 (below_alloc (Below.refl _ _) _)
  have hx3 : W3.heap[W1.heap.size]? = some (.cells #[.slice r.A r.v.nums.length r.c, .string r.v.text, .int .i64 r.v.chg, .int .i64 r.v.dur] 84 (0, 0)) := by rw [← hW3]; exact hb_new W1 _
  rw [hW3]
  clear hW3
  have hbw3 := HB1.out.trans (hb3.mono HB1.out.size)
  have HX := Aside0.mk (show Bx sb mb st mr w w.heap.size (w.heap.size + 1) W1.heap.size k A c nums text r st.rev st.l0 st.l1 st.l2 W3 from
    ⟨(hb3.block _ (lt_of_blk HK1.out)).trans HK1.out, (hb3.block _ (lt_of_blk HR1.out)).trans HR1.out, hx3, (hbw3.block _ (lt_of_blk HSB.out)).trans HSB.out, HMAP.out.below hbw3 HMAP.out.lt, Chg.of_new hbw3⟩)
  have HB3 := Aside0.mk hbw3
  clear hb3 hx3 hbw3
  obtain ⟨ke, hke⟩ := eq_f r.v.nums r.v.text nums text (by have := HDK.out.2.2; omega)
  have HE := Aside0.mk hke
  have y0 : W3.cell? ⟨W1.heap.size, 0, none⟩ = some (.slice r.A r.v.nums.length r.c) := (cells_of_blk HX.out.ox 0).trans rfl
  have y1 : W3.cell? ⟨W1.heap.size, 1, none⟩ = some (.string r.v.text) := (cells_of_blk HX.out.ox 1).trans rfl
  have y3 : W3.cell? ⟨W1.heap.size, 3, none⟩ = some (.int .i64 r.v.dur) := (cells_of_blk HX.out.ox 3).trans rfl
  have v0 : W3.cell? ⟨w.heap.size + 1, 0, none⟩ = some (.slice A nums.length c) := (cells_of_blk HX.out.vx 0).trans rfl
  have v1 : W3.cell? ⟨w.heap.size + 1, 1, none⟩ = some (.string text) := (cells_of_blk HX.out.vx 1).trans rfl
  clear hke
  by_cases hd : r.v.dur = d ∧ valEq r.v.nums r.v.text nums text = true
  case pos =>
    have hq := HQ.out
    rw [if_pos hd] at hq
    subst hq
    clear HQ
    obtain ⟨hd1, hd2⟩ := hd
    have bd : (r.v.dur == d) = true := beq_iff_eq.2 hd1
    have HD2 := Aside0.mk hd2
    clear hd1 hd2
    go_wp2_with (go_at_call 40; refine (inputs_Equal.calls ke r.A r.c r.v.nums r.v.text A c nums text true _ (HRI.out.below HB3.out).reads HRI.out.cap (HC.out _ HX.out.ch) HCC.out (by rw [HE.out, HD2.out])).mono ?_; rintro e w4 ⟨rfl, hb4⟩)
    go_ret2
    have hb5 := HB3.out.trans (hb4.mono HB3.out.size)
    exact ⟨rfl, HI.out.below hb5, Chg.of_new hb5⟩
  have hq := HQ.out
  rw [if_neg hd] at hq
  subst hq
  clear HQ
  rcases Decidable.em (r.v.dur = d) with hd1 | hd1
  have bd : (r.v.dur == d) = true := beq_iff_eq.2 hd1
  have HD2 := Aside0.mk (show valEq r.v.nums r.v.text nums text = false from Bool.eq_false_iff.2 (fun e => hd ⟨hd1, e⟩))
  clear hd hd1
  go_upto_region 8 with (go_at_call 40; refine (inputs_Equal.calls ke r.A r.c r.v.nums r.v.text A c nums text false _ (HRI.out.below HB3.out).reads HRI.out.cap (HC.out _ HX.out.ch) HCC.out (by rw [HE.out, HD2.out])).mono ?_; rintro e W6 ⟨rfl, hb6⟩)
  clear HD2
  rotate_left
  have bd : (r.v.dur == d) = false := beq_eq_false_iff_ne.2 hd1
  clear hd hd1
  go_upto_region 8 with (fail)
  obtain ⟨W6, hW6⟩ : ∃ W6, W3 = W6 := ⟨_, rfl⟩
  have hb6 : Below W3.heap.size W3 W6 := by rw [← hW6]; exact Below.refl _ _
  rw [hW6]
  clear hW6
  rotate_left
  all_goals
    have HX6 := Aside0.mk (HX.out.step hb6)
    clear y0 y1 y3 v0 v1 hb6
    have z0 : W6.cell? ⟨sb, 0, none⟩ = some (.int .i64 st.rev) := (cells_of_blk HX6.out.sx 0).trans rfl
    have zf := free_of_blk HX6.out.sx 0
    go_upto_region 9 with (fail)
    obtain ⟨W7, hW7⟩ : ∃ W7, W6.setCell ⟨sb, 0, none⟩ (.int .i64 (st.rev + 1)) = W7 := ⟨_, rfl⟩
    have HX7 := Aside0.mk (show Bx sb mb st mr w w.heap.size (w.heap.size + 1) W1.heap.size k A c nums text r (st.rev + 1) st.l0 st.l1 st.l2 W7 from by rw [← hW7]; exact HX6.out.put 0 _ rfl)
    rw [hW7]
    clear hW7 z0 zf
    have y3 : W7.cell? ⟨W1.heap.size, 3, none⟩ = some (.int .i64 r.v.dur) := (cells_of_blk HX7.out.ox 3).trans rfl
    have hd0 : 0 ≤ d := by omega
    have hd2 : d ≤ 2 := by omega
    have hr0 : 0 ≤ r.v.dur := HDK.out.1
    have hr2 : r.v.dur ≤ 2 := HDK.out.2.1
    have HMX := Aside0.mk (show r.v.dur ≤ mx r.v.dur d ∧ d ≤ mx r.v.dur d ∧ (mx r.v.dur d = r.v.dur ∨ mx r.v.dur d = d) by unfold mx; split <;> omega)
    have hmx : (mx r.v.dur d + 1).toNat = (mx r.v.dur d + 1).toNat := rfl
    go_wp2
    all_goals
      have hj := HMX.out
      go_loopg [49] (mx r.v.dur d + 1).toNat (fun kq v49 W => ∃ i : Nat, v49 = .int .i64 (i : Int) ∧ (kq : Int) + i = mx r.v.dur d + 1 ∧ Aside0 (Bx sb mb st mr w w.heap.size (w.heap.size + 1) W1.heap.size k A c nums text r (st.rev + 1) (bump st.rev st.l0 0 ((i : Int) - 1)) (bump st.rev st.l1 1 ((i : Int) - 1)) (bump st.rev st.l2 2 ((i : Int) - 1)) W))
      case atStart => exact ⟨0, rfl, by omega, HX7⟩
      case round =>
        obtain ⟨i, rfl, hi, hR⟩ := hrel
        cases gk with
        | zero =>
          have hx := hR.out
          rw [show (i : Int) - 1 = mx r.v.dur d by omega] at hx
          try have t1 : decide ((i : Int) < d + 1) = false := decide_eq_false (by omega)
          try have t2 : decide ((i : Int) < r.v.dur + 1) = false := decide_eq_false (by omega)
          clear hj hi hR hmx
          have HZ := Aside0.mk (show ∀ X, Below wr.heap.size wr X → (X.cell? ⟨sb, 4, none⟩ = some (.map (some mb)) ∧ X.cell? ⟨sb, 0, none⟩ = some (.int .i64 (st.rev + 1)) ∧ X.cell? ⟨w.heap.size, 0, none⟩ = some (.int .i64 k.f0) ∧ X.cell? ⟨w.heap.size, 1, none⟩ = some (.int .i64 k.f1) ∧ X.cell? ⟨w.heap.size, 2, none⟩ = some (.int .i64 k.f2) ∧ X.cell? ⟨w.heap.size + 1, 0, none⟩ = some (.slice A nums.length c) ∧ X.cell? ⟨w.heap.size + 1, 1, none⟩ = some (.string text)) from fun X hX => by
            have h := hx.step hX
            exact ⟨(cells_of_blk h.sx 4).trans rfl, (cells_of_blk h.sx 0).trans rfl, (cells_of_blk h.kx 0).trans rfl, (cells_of_blk h.kx 1).trans rfl, (cells_of_blk h.kx 2).trans rfl, (cells_of_blk h.vx 0).trans rfl, (cells_of_blk h.vx 1).trans rfl⟩)
          have HXR := Aside0.mk hx
          clear hx
          go_upto_region 14 with (fail)
          refine start_ (n := 14) (S := fun w' => w'.cell? ⟨sb, 4, none⟩ = some (.map (some mb)) ∧ w'.cell? ⟨sb, 0, none⟩ = some (.int .i64 (st.rev + 1)) ∧ w'.cell? ⟨w.heap.size, 0, none⟩ = some (.int .i64 k.f0) ∧ w'.cell? ⟨w.heap.size, 1, none⟩ = some (.int .i64 k.f1) ∧ w'.cell? ⟨w.heap.size, 2, none⟩ = some (.int .i64 k.f2) ∧ w'.cell? ⟨w.heap.size + 1, 0, none⟩ = some (.slice A nums.length c) ∧ w'.cell? ⟨w.heap.size + 1, 1, none⟩ = some (.string text)) (ds := [13]) #[false, false, false, false, false, false, false, false, false, false, false, false, false, false] (by kernel_rfl) rfl rfl (HZ.out _ (below_drew1 (Below.refl _ _))) (fun hHeld => ?_)
          refine pure_ (i := 0) (N := some 62) (v := ?_) (a' := ?_) #[true, false, false, false, false, false, false, false, false, false, false, false, false, false] rfl rfl (by kernel_rfl) (fun _ _ _ h => h) (Or.inl ⟨by rfl, ?_⟩) ?_ ?_
          rotate_left
          · intro w'
            go_simp
            with_reducible rfl
          rotate_left
          · simp only [Act.put, List.setIfInBounds_toArray, List.set_cons_zero, List.set_cons_succ, i64_w, i32_w]
            rfl
          refine pure_ (i := 1) (N := some 63) (v := ?_) (a' := ?_) #[true, true, false, false, false, false, false, false, false, false, false, false, false, false] rfl rfl (by kernel_rfl) (fun _ _ _ h => h) (Or.inl ⟨by rfl, ?_⟩) ?_ ?_
          rotate_left
          · intro w'
            go_simp
            with_reducible rfl
          rotate_left
          · simp only [Act.put, List.setIfInBounds_toArray, List.set_cons_zero, List.set_cons_succ, i64_w, i32_w]
            rfl
          refine pure_ (i := 2) (N := some 64) (v := ?_) (a' := ?_) #[true, true, true, false, false, false, false, false, false, false, false, false, false, false] rfl rfl (by kernel_rfl) (fun _ _ _ h => h) (Or.inl ⟨by rfl, ?_⟩) ?_ ?_
          rotate_left
          · intro w'
            go_simp
            with_reducible rfl
          rotate_left
          · simp only [Act.put, List.setIfInBounds_toArray, List.set_cons_zero, List.set_cons_succ, i64_w, i32_w]
            rfl
          refine take_ (i := 3) (N := some 65) (v := ?_) (a' := ?_) #[true, true, true, true, false, false, false, false, false, false, false, false, false, false] rfl rfl (by kernel_rfl) (fun _ _ _ h => h) (Or.inl ⟨by rfl, ?_⟩) hHeld ?_ ?_
          rotate_left
          · rintro w' ⟨s0_, s1_, s2_, s3_, s4_, s5_, s6_⟩
            go_simp
            with_reducible rfl
          rotate_left
          · simp only [Act.put, List.setIfInBounds_toArray, List.set_cons_zero, List.set_cons_succ, i64_w, i32_w]
            rfl
          refine take_ (i := 4) (N := some 66) (v := ?_) (a' := ?_) #[true, true, true, true, true, false, false, false, false, false, false, false, false, false] rfl rfl (by kernel_rfl) (fun _ _ _ h => h) (Or.inl ⟨by rfl, ?_⟩) hHeld ?_ ?_
          rotate_left
          · rintro w' ⟨s0_, s1_, s2_, s3_, s4_, s5_, s6_⟩
            go_simp
            with_reducible rfl
          rotate_left
          · simp only [Act.put, List.setIfInBounds_toArray, List.set_cons_zero, List.set_cons_succ, i64_w, i32_w]
            rfl
          refine take_ (i := 5) (N := some 67) (v := ?_) (a' := ?_) #[true, true, true, true, true, true, false, false, false, false, false, false, false, false] rfl rfl (by kernel_rfl) (fun _ _ _ h => h) (Or.inl ⟨by rfl, ?_⟩) hHeld ?_ ?_
          rotate_left
          · rintro w' ⟨s0_, s1_, s2_, s3_, s4_, s5_, s6_⟩
            go_simp
            with_reducible rfl
          rotate_left
          · simp only [Act.put, List.setIfInBounds_toArray, List.set_cons_zero, List.set_cons_succ, i64_w, i32_w]
            rfl
          refine pure_ (i := 7) (N := some 69) (v := ?_) (a' := ?_) #[true, true, true, true, true, true, false, true, false, false, false, false, false, false] rfl rfl (by kernel_rfl) (fun _ _ _ h => h) (Or.inl ⟨by rfl, ?_⟩) ?_ ?_
          rotate_left
          · intro w'
            go_simp
            with_reducible rfl
          rotate_left
          · simp only [Act.put, List.setIfInBounds_toArray, List.set_cons_zero, List.set_cons_succ, i64_w, i32_w]
            rfl
          refine pure_ (i := 8) (N := some 70) (v := ?_) (a' := ?_) #[true, true, true, true, true, true, false, true, true, false, false, false, false, false] rfl rfl (by kernel_rfl) (fun _ _ _ h => h) (Or.inl ⟨by rfl, ?_⟩) ?_ ?_
          rotate_left
          · intro w'
            go_simp
            with_reducible rfl
          rotate_left
          · simp only [Act.put, List.setIfInBounds_toArray, List.set_cons_zero, List.set_cons_succ, i64_w, i32_w]
            rfl
          refine pure_ (i := 9) (N := some 71) (v := ?_) (a' := ?_) #[true, true, true, true, true, true, false, true, true, true, false, false, false, false] rfl rfl (by kernel_rfl) (fun _ _ _ h => h) (Or.inl ⟨by rfl, ?_⟩) ?_ ?_
          rotate_left
          · intro w'
            go_simp
            with_reducible rfl
          rotate_left
          · simp only [Act.put, List.setIfInBounds_toArray, List.set_cons_zero, List.set_cons_succ, i64_w, i32_w]
            rfl
          refine take_ (i := 10) (N := some 72) (v := ?_) (a' := ?_) #[true, true, true, true, true, true, false, true, true, true, true, false, false, false] rfl rfl (by kernel_rfl) (fun _ _ _ h => h) (Or.inl ⟨by rfl, ?_⟩) hHeld ?_ ?_
          rotate_left
          · rintro w' ⟨s0_, s1_, s2_, s3_, s4_, s5_, s6_⟩
            go_simp
            with_reducible rfl
          rotate_left
          · simp only [Act.put, List.setIfInBounds_toArray, List.set_cons_zero, List.set_cons_succ, i64_w, i32_w]
            rfl
          refine pure_ (i := 11) (N := some 73) (v := ?_) (a' := ?_) #[true, true, true, true, true, true, false, true, true, true, true, true, false, false] rfl rfl (by kernel_rfl) (fun _ _ _ h => h) (Or.inl ⟨by rfl, ?_⟩) ?_ ?_
          rotate_left
          · intro w'
            go_simp
            with_reducible rfl
          rotate_left
          · simp only [Act.put, List.setIfInBounds_toArray, List.set_cons_zero, List.set_cons_succ, i64_w, i32_w]
            rfl
          refine one_ (i := 6) (N := some 68) #[true, true, true, true, true, true, true, true, true, true, true, true, false, false] rfl rfl (by kernel_rfl) (by decide) (fun K hK => ?_)
          refine goes_ Try.func41 (by kernel_rfl) rfl #[.agg #[.slice A nums.length c, .string text]] (by rfl) rfl rfl (by (try simp only [List.map_toArray, List.map_cons, List.map_nil]); first | done | rfl) ?_
          refine (inputs_clone.calls A c nums text nums text _ (HC.out _ (HXR.out.ch.trans (Chg.drew _) (fun _ _ e => e))) HCC.out (clone_f _ _ HLEN.out)).mono ?_
          rintro e w4 ⟨v0, rfl, hR4, hb4⟩
          refine ⟨_, rfl, ?_⟩
          obtain ⟨A4, c4, hv4⟩ := Kd.R_slice hR4
          subst hv4
          have hb34 : Below wr.heap.size wr w4 := (below_drew1 (Below.refl wr.heap.size wr)).trans hb4
          have HB4 := Aside0.mk hb34
          have HR4 := Aside0.mk hR4
          have HX4 := Aside0.mk (HXR.out.step hb34)
          clear hR4 hb4 hb34
          refine hK.out _ _ (HZ.out _ HB4.out) (fun hHeld => ?_)
          clear hK K
          refine norm_ (a' := ?_) ?_ ?_
          rotate_left
          · show Act.put _ (some 68) _ = _
            simp only [Act.put, List.setIfInBounds_toArray, List.set_cons_zero, List.set_cons_succ, i64_w, i32_w]
            rfl
          refine pure_ (i := 12) (N := some 74) (v := ?_) (a' := ?_) #[true, true, true, true, true, true, true, true, true, true, true, true, true, false] rfl rfl (by kernel_rfl) (fun _ _ _ h => h) (Or.inl ⟨by rfl, ?_⟩) ?_ ?_
          rotate_left
          · intro w'
            go_simp
            with_reducible rfl
          rotate_left
          · simp only [Act.put, List.setIfInBounds_toArray, List.set_cons_zero, List.set_cons_succ, i64_w, i32_w]
            rfl
          refine last_ (i := 13) (N := none) #[true, true, true, true, true, true, true, true, true, true, true, true, true, true] rfl rfl (by kernel_rfl) (by decide) (fun K hK => ?_)
          obtain ⟨W9, hrun, hmap9, hg9⟩ := HX4.out.mx.update keyLaw34 Try.underlying80 k (.agg #[.slice A4 nums.length c4, .string text, .int .i64 (st.rev + 1), .int .i64 d])
          have hrun' : (Instr.mapUpdate 80 (.map (some mb)) (.agg #[.int .i64 k.f0, .int .i64 k.f1, .int .i64 k.f2]) (.agg #[.slice A4 nums.length c4, .string text, .int .i64 (st.rev + 1), .int .i64 d])).run Try.prog w4 = .ok () W9 := hrun
          have HM9 := Aside0.mk hmap9
          have HG9 := Aside0.mk hg9
          clear hrun hmap9 hg9
          refine skip_ (w1 := W9) (by rfl) rfl ?_ ?_
          · go_simp
          clear hrun'
          refine hK.out _ _ (done_ (by kernel_rfl) ?_)
          clear hK K
          go_wp2
          go_ret2
          have hc9 : Chg (fun k => k = sb ∨ k = mb) w4 W9 := Chg.of_grown HG9.out (fun k e => .inr (Option.some.inj e).symm)
          have hcw := HX4.out.ch.trans hc9 (fun _ _ e => e)
          have hms : mb ≠ sb := HX4.out.mx.cells HX4.out.sx
          have hs9 := (HG9.out.block _ (lt_of_blk HX4.out.sx) (fun e => hms (Option.some.inj e).symm)).trans HX4.out.sx
          have hsz : sb < wr.heap.size ∧ mb < wr.heap.size := ⟨lt_of_blk HXR.out.sx, HXR.out.mx.lt⟩
          refine ⟨rfl, ⟨mset mr k ⟨A4, c4, ⟨nums, text, st.rev + 1, d⟩⟩, by rw [HM.out, mset_map InR.v], hs9, by rw [mset_map InR.enc]; exact HM9.out, ?_, ?_⟩, hcw⟩
          · intro p hp
            rcases mset_mem hp with hp | rfl
            · exact (HIN.out p hp).chg hcw (fun j e hlt => by
                rcases e with rfl | rfl
                · exact other_cells HSB.out (by decide)
                · exact other_map HMAP.out)
            · have h0 : InOK w4 ⟨A4, c4, ⟨nums, text, st.rev + 1, d⟩⟩ := Kd.R_lower (Kd.R_tight rfl HR4.out) (Nat.zero_le _)
              exact h0.chg hc9 (fun j e hlt => by
                rcases e with rfl | rfl
                · exact other_cells HX4.out.sx (by decide)
                · exact other_map HX4.out.mx)
          · intro p hp
            rcases mset_mem hp with hp | rfl
            · exact HOK.out p hp
            · exact ⟨hd0, hd2, HLEN.out⟩
        | succ k1 =>
          try have t1 : decide ((i : Int) < d + 1) = true := decide_eq_true (by omega)
          try have t2 : decide ((i : Int) < r.v.dur + 1) = true := decide_eq_true (by omega)
          have hi3 : i < 3 := by omega
          have p1 := eq_true (show (0 : Int) ≤ (i : Int) by omega)
          have p2 := eq_true (show (i : Int) < 3 by omega)
          have HXR := Aside0.mk hR.out
          obtain ⟨u, hu⟩ : ∃ u, wr.cell? ⟨sb, 1 + i, none⟩ = some u := by
            rw [cells_of_blk hR.out.sx]
            obtain rfl | rfl | rfl : i = 0 ∨ i = 1 ∨ i = 2 := by omega
            all_goals exact ⟨_, rfl⟩
          have hf := free_of_blk hR.out.sx (1 + i)
          have hz0 : wr.cell? ⟨sb, 0, none⟩ = some (.int .i64 (st.rev + 1)) := (cells_of_blk hR.out.sx 0).trans rfl
          have HII := Aside0.mk hi
          have HI3 := Aside0.mk hi3
          have HJ := Aside0.mk hj
          clear hj hi hR hmx hi3
          go_upto_region 12 with (fail)
          refine start_ (n := 10) (S := fun w' => w'.cell? ⟨sb, 0, none⟩ = some (.int .i64 (st.rev + 1))) (ds := [9]) #[false, false, false, false, false, false, false, false, false, false] (by kernel_rfl) rfl rfl (hz0) (fun hHeld => ?_)
          refine pure_ (i := 0) (N := some 52) (v := ?_) (a' := ?_) #[true, false, false, false, false, false, false, false, false, false] rfl rfl (by kernel_rfl) (fun _ _ _ h => h) (Or.inl ⟨by rfl, ?_⟩) ?_ ?_
          rotate_left
          · intro w'
            go_simp
            with_reducible rfl
          rotate_left
          · simp only [Act.put, List.setIfInBounds_toArray, List.set_cons_zero, List.set_cons_succ, i64_w, i32_w]
            rfl
          refine pure_ (i := 1) (N := some 53) (v := ?_) (a' := ?_) #[true, true, false, false, false, false, false, false, false, false] rfl rfl (by kernel_rfl) (fun _ _ _ h => h) (Or.inl ⟨by rfl, ?_⟩) ?_ ?_
          rotate_left
          · intro w'
            go_simp
            with_reducible rfl
          rotate_left
          · simp only [Act.put, List.setIfInBounds_toArray, List.set_cons_zero, List.set_cons_succ, i64_w, i32_w]
            rfl
          refine pure_ (i := 2) (N := some 54) (v := ?_) (a' := ?_) #[true, true, true, false, false, false, false, false, false, false] rfl rfl (by kernel_rfl) (fun _ _ _ h => h) (Or.inl ⟨by rfl, ?_⟩) ?_ ?_
          rotate_left
          · intro w'
            go_simp
            with_reducible rfl
          rotate_left
          · simp only [Act.put, List.setIfInBounds_toArray, List.set_cons_zero, List.set_cons_succ, i64_w, i32_w]
            rfl
          refine pure_ (i := 3) (N := some 55) (v := ?_) (a' := ?_) #[true, true, true, true, false, false, false, false, false, false] rfl rfl (by kernel_rfl) (fun _ _ _ h => h) (Or.inl ⟨by rfl, ?_⟩) ?_ ?_
          rotate_left
          · intro w'
            go_simp
            with_reducible rfl
          rotate_left
          · simp only [Act.put, List.setIfInBounds_toArray, List.set_cons_zero, List.set_cons_succ, i64_w, i32_w]
            rfl
          refine pure_ (i := 4) (N := some 56) (v := ?_) (a' := ?_) #[true, true, true, true, true, false, false, false, false, false] rfl rfl (by kernel_rfl) (fun _ _ _ h => h) (Or.inl ⟨by rfl, ?_⟩) ?_ ?_
          rotate_left
          · intro w'
            go_simp
            with_reducible rfl
          rotate_left
          · simp only [Act.put, List.setIfInBounds_toArray, List.set_cons_zero, List.set_cons_succ, i64_w, i32_w]
            rfl
          refine take_ (i := 5) (N := some 57) (v := ?_) (a' := ?_) #[true, true, true, true, true, true, false, false, false, false] rfl rfl (by kernel_rfl) (fun _ _ _ h => h) (Or.inl ⟨by rfl, ?_⟩) hHeld ?_ ?_
          rotate_left
          · intro w' s0_
            go_simp
            with_reducible rfl
          rotate_left
          · simp only [Act.put, List.setIfInBounds_toArray, List.set_cons_zero, List.set_cons_succ, i64_w, i32_w]
            rfl
          refine pure_ (i := 6) (N := some 58) (v := ?_) (a' := ?_) #[true, true, true, true, true, true, true, false, false, false] rfl rfl (by kernel_rfl) (fun _ _ _ h => h) (Or.inl ⟨by rfl, ?_⟩) ?_ ?_
          rotate_left
          · intro w'
            go_simp
            with_reducible rfl
          rotate_left
          · simp only [Act.put, List.setIfInBounds_toArray, List.set_cons_zero, List.set_cons_succ, i64_w, i32_w]
            rfl
          refine pure_ (i := 7) (N := some 59) (v := ?_) (a' := ?_) #[true, true, true, true, true, true, true, true, false, false] rfl rfl (by kernel_rfl) (fun _ _ _ h => h) (Or.inl ⟨by rfl, ?_⟩) ?_ ?_
          rotate_left
          · intro w'
            go_simp
            with_reducible rfl
          rotate_left
          · simp only [Act.put, List.setIfInBounds_toArray, List.set_cons_zero, List.set_cons_succ, i64_w, i32_w]
            rfl
          refine pure_ (i := 8) (N := some 60) (v := ?_) (a' := ?_) #[true, true, true, true, true, true, true, true, true, false] rfl rfl (by kernel_rfl) (fun _ _ _ h => h) (Or.inl ⟨by rfl, ?_⟩) ?_ ?_
          rotate_left
          · intro w'
            go_simp
            with_reducible rfl
          rotate_left
          · simp only [Act.put, List.setIfInBounds_toArray, List.set_cons_zero, List.set_cons_succ, i64_w, i32_w]
            rfl
          refine last_ (i := 9) (N := none) #[true, true, true, true, true, true, true, true, true, true] rfl rfl (by kernel_rfl) (by decide) (fun K hK => ?_)
          refine skip_ (w1 := ?_) (by rfl) rfl ?_ ?_
          rotate_left
          · go_simp
            rfl
          refine hK.out _ _ (done_ (by kernel_rfl) ?_)
          clear hK K
          obtain ⟨Wn, hWn⟩ : ∃ Wn, (wr.setCell ⟨sb, 1 + i, none⟩ (.int .i64 (st.rev + 1))).drew = Wn := ⟨_, rfl⟩
          have HXN := Aside0.mk (show Bx sb mb st mr w w.heap.size (w.heap.size + 1) W1.heap.size k A c nums text r (st.rev + 1) (bump st.rev st.l0 0 (((i + 1 : Nat) : Int) - 1)) (bump st.rev st.l1 1 (((i + 1 : Nat) : Int) - 1)) (bump st.rev st.l2 2 (((i + 1 : Nat) : Int) - 1)) Wn from by
            rw [← hWn]
            refine (HXR.out.put (1 + i) (.int .i64 (st.rev + 1)) ?_).step (below_drew1 (Below.refl _ _))
            have := HI3.out
            obtain rfl | rfl | rfl : i = 0 ∨ i = 1 ∨ i = 2 := by omega
            all_goals simp [bump])
          rw [hWn]
          clear hWn hHeld hu hf hz0 p1 p2
          have hw : wrap64 ((i : Int) + 1) = ((i + 1 : Nat) : Int) := by have := HI3.out; unfold wrap64; omega
          have HW := Aside0.mk hw
          clear hw
          go_wp2
          go_roundg k1
          case measure => omega
          case rel => exact ⟨i + 1, by first | rfl | rw [HW.out], by have := HII.out; omega, HXN⟩
end Go.Proofs.Ytogpjenmfgpfiaa.QInputsScript
