/-
  InputsScript: the law's list, looked into and written.
-/
import Derived.Test.YtogpjenmfgpfiaaHandIn6
namespace Go.Proofs.Ytogpjenmfgpfiaa.QInputsScript
open Go.RowKit Go.Proofs.YtogpjenmfgpfiaaW.PrintWords Go.Proofs.YtogpjenmfgpfiaaW.PrintLast Go.Proofs.YtogpjenmfgpfiaaW.PrintMore Go.Proofs.Ytogpjenmfgpfiaa.Hand Go.Proofs.Ytogpjenmfgpfiaa.Aid
attribute [local go_sem] max2_int min2_int max_two min_two max_three min_three max_four min_four
set_option linter.unusedVariables false
set_option linter.unusedSimpArgs false
theorem eqgo2 (l0 l1 : List Int) (hl : l0.length ≤ 9223372036854775807) (h : l0.length = l1.length) : ∀ (d i : Nat), i + d = l0.length → (∀ j, j < i → l0[j]? = l1[j]?) → ∃ k, glossatorref3_Equal_int.l0 k l1 l0 (l0.length : Int) (i : Int) = some (decide (l0 = l1))
  | 0, i, hi, hp => by
    refine ⟨1, ?_⟩
    simp only [glossatorref3_Equal_int.l0]
    rw [if_neg (by omega)]
    have : l0 = l1 := List.ext_getElem? (fun j => by
      by_cases c : j < i
      · exact hp j c
      · rw [List.getElem?_eq_none (by omega), List.getElem?_eq_none (by omega)])
    rw [decide_eq_true this]
  | d + 1, i, hi, hp => by
    have h0 : rd l0 (i : Int) = l0[i]'(by omega) := by simp [rd, List.getD_eq_getElem?_getD]; rw [List.getElem?_eq_getElem (by omega)]; rfl
    have h1 : rd l1 (i : Int) = l1[i]'(by omega) := by simp [rd, List.getD_eq_getElem?_getD]; rw [List.getElem?_eq_getElem (by omega)]; rfl
    by_cases c : l0[i]'(by omega) = l1[i]'(by omega)
    · obtain ⟨k, hk⟩ := eqgo2 l0 l1 hl h d (i + 1) (by omega) (fun j hj => by
        by_cases e : j = i
        · subst e; rw [List.getElem?_eq_getElem (by omega), List.getElem?_eq_getElem (by omega), c]
        · exact hp j (by omega))
      refine ⟨k + 1, ?_⟩
      simp only [glossatorref3_Equal_int.l0]
      rw [if_pos (by omega), if_pos (by omega), if_pos (by omega), if_pos (by omega), h0, h1]
      simp only [c, ne_eq, not_true_eq_false, if_false, if_true]
      rw [wrap_id (by omega) (by omega)]
      exact_mod_cast hk
    · refine ⟨1, ?_⟩
      simp only [glossatorref3_Equal_int.l0]
      rw [if_pos (by omega), if_pos (by omega), if_pos (by omega), if_pos (by omega), h0, h1]
      have : l0 ≠ l1 := fun e => c (by subst e; rfl)
      rw [decide_eq_false this]
      simp [c]
theorem eq2_f (l0 : List Int) (a0 : ByteArray) (l1 : List Int) (a1 : ByteArray) (hl : l0.length ≤ 9223372036854775807) : ∃ k, glossatorref3_EqualValues.f k l0 a0 l1 a1 = some (valEq l0 a0 l1 a1) := by
  unfold glossatorref3_EqualValues.f valEq
  by_cases c : a0.toList = a1.toList
  · by_cases h : l0.length = l1.length
    · obtain ⟨k, hk⟩ := eqgo2 l0 l1 hl h l0.length 0 (by omega) (fun j hj => by omega)
      refine ⟨k, ?_⟩
      rw [if_pos c]
      unfold glossatorref3_Equal_int.f
      rw [if_pos (by omega), show (0 : Int) = ((0 : Nat) : Int) from rfl, hk, Option.bind_some]
      congr 1
      rw [Bool.eq_iff_iff]
      simp [c]
    · refine ⟨0, ?_⟩
      rw [if_pos c]
      unfold glossatorref3_Equal_int.f
      rw [if_neg (by omega), Option.bind_some, decide_eq_false]
      rintro ⟨_, e⟩
      exact h (by rw [e])
  · refine ⟨0, ?_⟩
    rw [if_neg c, decide_eq_false]
    exact fun e => c e.1
/-- EqualValues, its count of rounds put away. -/
theorem eqv_calls (A0 : Option Addr) (c0 : Nat) (l0 : List Int) (a0 : ByteArray) (A1 : Option Addr) (c1 : Nat) (l1 : List Int) (a1 : ByteArray) (w : World) (hr0 : Kd.C (Kd.int .i64) w A0 l0.length l0) (hc0 : l0.length ≤ c0) (hr1 : Kd.C (Kd.int .i64) w A1 l1.length l1) (hc1 : l1.length ≤ c1) :
    Calls Try.prog 12 #[.agg #[.slice A0 l0.length c0, .string a0], .agg #[.slice A1 l1.length c1, .string a1]] w fun e w' => e = .returned (.bool (valEq l0 a0 l1 a1)) ∧ Below w.heap.size w w' := by
  obtain ⟨k, hk⟩ := eq2_f l0 a0 l1 a1 hr0.2.1
  exact glossatorref3_EqualValues.calls k A0 c0 l0 a0 A1 c1 l1 a1 _ w hr0 hc0 hr1 hc1 hk
/-! ### the list's keys -/
def Rel (st : St) (kn : List Kn) : Prop := (kn.map (·.k)).Nodup ∧ ∀ x, getP st.m x = getP (kmap kn) x
/-- Where the last one of the key stands, or -1. -/
def kI (ks : List S34) (x : S34) : Int := match fidx ks x with | some j => (j : Int) | none => -1
theorem fidx_snoc (ks : List S34) (y x : S34) : fidx (ks ++ [y]) x = match fidx ks x with | some j => some j | none => if y = x then some ks.length else none := by
  induction ks with
  | nil => simp [fidx]
  | cons z t ih =>
    rw [List.cons_append, fidx, fidx]
    by_cases c : z = x
    · rw [if_pos c, if_pos c]
    · rw [if_neg c, if_neg c, ih]
      cases fidx t x with
      | none => by_cases e : y = x <;> simp [e]
      | some j => simp
theorem fidx_mem {ks : List S34} {x : S34} : (∃ j, fidx ks x = some j) ↔ x ∈ ks := by
  induction ks with
  | nil => simp [fidx]
  | cons z t ih =>
    rw [fidx]
    by_cases c : z = x
    · rw [if_pos c]; simp [c]
    · rw [if_neg c, List.mem_cons, ← ih]
      constructor
      · rintro ⟨j, hj⟩
        cases e : fidx t x with
        | none => rw [e] at hj; cases hj
        | some i => exact .inr ⟨i, rfl⟩
      · rintro (h | ⟨i, hi⟩)
        · exact absurd h.symm c
        · exact ⟨i + 1, by rw [hi]; rfl⟩
theorem kI_step {ks : List S34} (hn : ks.Nodup) (x y : S34) (j : Nat) (hj : ks[j]? = some y) : kI (ks.take (j + 1)) x = if y = x then (j : Int) else kI (ks.take j) x := by
  have hl := (List.getElem?_eq_some_iff.1 hj).1
  have e : ks.take (j + 1) = ks.take j ++ [y] := by rw [List.take_add_one, hj]; rfl
  unfold kI
  rw [e, fidx_snoc]
  by_cases c : y = x
  · rw [if_pos c]
    have : fidx (ks.take j) x = none := by
      cases h : fidx (ks.take j) x with
      | none => rfl
      | some i =>
        exfalso
        have hm : x ∈ ks.take j := fidx_mem.1 ⟨i, h⟩
        have hnd : (ks.take (j + 1)).Nodup := hn.sublist (List.take_sublist _ _)
        rw [e, List.nodup_append] at hnd
        exact hnd.2.2 x hm x (by simp [c]) rfl
    rw [this]
    simp [c]; omega
  · rw [if_neg c]
    cases fidx (ks.take j) x <;> simp [c]
theorem kI_some {ks : List S34} {x : S34} (h : 0 ≤ kI ks x) : ∃ j : Nat, kI ks x = (j : Int) ∧ ks[j]? = some x := by
  unfold kI at h ⊢
  cases e : fidx ks x with
  | none => rw [e] at h; exact absurd h (by decide)
  | some j =>
    refine ⟨j, rfl, ?_⟩
    clear h
    induction ks generalizing j with
    | nil => cases e
    | cons z t ih =>
      rw [fidx] at e
      by_cases c : z = x
      · rw [if_pos c] at e; injection e with e; subst e; simp [c]
      · rw [if_neg c] at e
        cases e2 : fidx t x with
        | none => rw [e2] at e; cases e
        | some i => rw [e2] at e; injection e with e; subst e; simpa using ih i e2
theorem kI_none {ks : List S34} {x : S34} (h : kI ks x < 0) : x ∉ ks := by
  unfold kI at h
  intro hm
  obtain ⟨j, hj⟩ := fidx_mem.2 hm
  rw [hj] at h
  simp only at h
  omega
theorem getP_at {kn : List Kn} (hn : (kn.map (·.k)).Nodup) {j : Nat} {p : Kn} (hp : kn[j]? = some p) : getP (kmap kn) p.k = p.v := by
  unfold getP kmap
  induction kn generalizing j with
  | nil => simp at hp
  | cons q t ih =>
    rw [List.map_cons, mget]
    rw [List.map_cons, List.nodup_cons] at hn
    cases j with
    | zero => simp at hp; subst hp; simp
    | succ j =>
      rw [List.getElem?_cons_succ] at hp
      have hne : q.k ≠ p.k := fun e => hn.1 (by rw [e]; exact List.mem_map.2 ⟨p, List.mem_of_getElem? hp, rfl⟩)
      simp only [hne, if_false]
      exact ih hn.2 hp
theorem getP_out {kn : List Kn} {x : S34} (h : x ∉ kn.map (·.k)) : getP (kmap kn) x = zIn := by
  unfold getP kmap
  induction kn with
  | nil => rfl
  | cons q t ih =>
    rw [List.map_cons, List.mem_cons, not_or] at h
    rw [List.map_cons, mget, if_neg (fun e => h.1 e.symm)]
    exact ih h.2
theorem getP_snoc {kn : List Kn} {q : Kn} (x : S34) (hq : q.v = zIn) : getP (kmap (kn ++ [q])) x = getP (kmap kn) x := by
  unfold getP kmap
  induction kn with
  | nil =>
    simp only [List.nil_append, List.map_cons, List.map_nil, mget]
    by_cases c : q.k = x <;> simp [c, hq]
  | cons p t ih =>
    rw [List.cons_append, List.map_cons, List.map_cons, mget, mget]
    by_cases c : p.k = x
    · simp [c]
    · simp only [c, if_false]
      exact ih
theorem getP_set {kn : List Kn} (hn : (kn.map (·.k)).Nodup) {j : Nat} {p q : Kn} (hp : kn[j]? = some p) (hq : q.k = p.k) (x : S34) : getP (kmap (kn.set j q)) x = if p.k = x then q.v else getP (kmap kn) x := by
  unfold getP kmap
  induction kn generalizing j with
  | nil => simp at hp
  | cons z t ih =>
    rw [List.map_cons, List.nodup_cons] at hn
    cases j with
    | zero =>
      simp at hp; subst hp
      rw [List.set_cons_zero, List.map_cons, List.map_cons, mget, mget]
      simp only [hq]
      by_cases c : z.k = x <;> simp [c]
    | succ j =>
      rw [List.getElem?_cons_succ] at hp
      rw [List.set_cons_succ, List.map_cons, List.map_cons, mget, mget]
      have hne : z.k ≠ p.k := fun e => hn.1 (by rw [e]; exact List.mem_map.2 ⟨p, List.mem_of_getElem? hp, rfl⟩)
      by_cases c : z.k = x
      · have : p.k ≠ x := fun e => hne (by rw [c, e])
        simp [c, this]
      · simp only [c, if_false]
        exact ih hn.2 hp
theorem getP_mset (m : List (S34 × In)) (x y : S34) (v : In) : getP (mset m x v) y = if x = y then v else getP m y := by
  unfold getP
  by_cases c : x = y
  · subst c; rw [mget_mset_same, if_pos rfl]; rfl
  · rw [mget_mset_ne m v c, if_neg c]
section
variable {w : World} {sb mb lb : Nat} {st : St} {a0 a1 a2 : Int} {kn : List Kn} {V V' : Option Addr} {cv cv' : Nat} {W W' : World}
theorem own_slice (V : Option Addr) (n m c c' : Nat) : (Value.slice V n c).ownBlock = (Value.slice V m c').ownBlock := by cases V <;> rfl
/-- The list's row is written, or another made of it. -/
theorem LI.row {kn' : List Kn} (h : LI w sb mb lb st a0 a1 a2 kn V cv W) (hg : W.grownBy W' (Value.slice V kn.length cv).ownBlock) (hr : Kd.R (Kd.raw 7) 40 W' w.heap.size (fun _ => True) (.slice V' kn'.length cv') (kn'.map Kn.enc)) (hb : Below w.heap.size w W')
    (hv : ∀ p ∈ kn', p.v.nums.length ≤ p.c ∧ Kd.C (Kd.int .i64) w p.A p.v.nums.length p.v.nums) : LI w sb mb lb st a0 a1 a2 kn' V' cv' W' := by
  obtain ⟨n1, n2, n3, n4⟩ := h.apart
  have hc : Chg (fun k => (Value.slice V kn.length cv).ownBlock = some k) W W' := Chg.of_grown hg (fun k e => e)
  refine ⟨h.si.step hc (fun e => (n4 _ e).1 rfl) (fun e => (n4 _ e).2.1 rfl) (fun k hk hlt => ?_), hc.at h.lx (fun e => (n4 _ e).2.2 rfl), Kd.R_tight rfl hr, hv, hb, h.b1, h.b2, h.b3⟩
  obtain ⟨cells, hcells⟩ := Kd.R_typed h.kr k hk
  exact other_cells hcells (by decide)
/-- A store into the last changes. -/
theorem LI.last (h : LI w sb mb lb st a0 a1 a2 kn V cv W) (i : Nat) (u : Value) {b0 b1 b2 : Int} (he : (#[.int .i64 a0, .int .i64 a1, .int .i64 a2] : Array Value).setIfInBounds i u = #[.int .i64 b0, .int .i64 b1, .int .i64 b2]) : LI w sb mb lb st b0 b1 b2 kn V cv (W.setCell ⟨lb, i, none⟩ u) := by
  obtain ⟨n1, n2, n3, n4⟩ := h.apart
  have hc : Chg (fun k => k = lb) W (W.setCell ⟨lb, i, none⟩ u) := Chg.set W ⟨lb, i, none⟩ u rfl
  refine ⟨h.si.step hc (fun e => n2 e) (fun e => n3 e) (fun k hk hlt => by subst hk; exact other_cells h.lx (by decide)), by rw [← he]; exact hb_set h.lx i u, Kd.R_step h.kr (fun k hk hlt => hc.block k hlt (fun e => (n4 k hk.symm).2.2 e)), h.kv, h.bw.setCell h.b3 u, h.b1, h.b2, h.b3⟩
theorem Kn.enc_len (p : Kn) : p.enc.length = 7 := rfl
theorem Kn.enc_one (p : Kn) : ∀ u ∈ p.enc, u.oneCell' = true := by
  intro u hu
  simp only [Kn.enc, List.mem_cons, List.not_mem_nil, or_false] at hu
  rcases hu with rfl | rfl | rfl | rfl | rfl | rfl | rfl <;> rfl
/-- A store of an element's last value. -/
theorem LI.put {g : Nat} (h : LI w sb mb lb st a0 a1 a2 kn (some ⟨g, 0, none⟩) cv W) (j : Nat) (p : Kn) (hp : kn[j]? = some p) (A : Option Addr) (c : Nat) (v : In) (hv : v.nums.length ≤ c ∧ Kd.C (Kd.int .i64) w A v.nums.length v.nums) :
    LI w sb mb lb st a0 a1 a2 (kn.set j ⟨p.k, A, c, v⟩) (some ⟨g, 0, none⟩) cv ((((W.setCell ⟨g, j * 7 + 3, none⟩ (.slice A v.nums.length c)).setCell ⟨g, j * 7 + 4, none⟩ (.string v.text)).setCell ⟨g, j * 7 + 5, none⟩ (.int .i64 v.chg)).setCell ⟨g, j * 7 + 6, none⟩ (.int .i64 v.dur)) := by
  have hl := (List.getElem?_eq_some_iff.1 hp).1
  obtain ⟨c0, hcl, hM, hcc, hfr⟩ := Kd.R_elem h.kr [] (j : Int) (by omega) (by omega)
  have hM2 := hM
  rw [Int.toNat_natCast, List.getD_eq_getElem?_getD, List.getElem?_map, hp] at hM2
  obtain ⟨rfl, _⟩ := hM2
  obtain ⟨h2, h3⟩ := Kd.R_seg (Kd.R_mono h.kr (ok' := fun _ => True) (fun _ _ => trivial)) (j : Int) (by omega) (by omega) (c := p.enc) (seg := [.slice A v.nums.length c, .string v.text, .int .i64 v.chg, .int .i64 v.dur]) (j := 3) (x' := (⟨p.k, A, c, v⟩ : Kn).enc) (okp := fun _ => False) hcl hcc (Nat.le_refl 7)
    ⟨rfl, rfl, Kn.enc_one ⟨p.k, A, c, v⟩⟩ (fun _ e => e.elim)
  rw [Int.toNat_natCast] at h2 h3
  have e7 : (Kd.raw 7).sz = 7 := rfl
  rw [e7] at h2 h3
  simp only [World.setCells, Nat.add_assoc, Nat.reduceAdd] at h2 h3
  have hset : (kn.map Kn.enc).set j (⟨p.k, A, c, v⟩ : Kn).enc = (kn.set j ⟨p.k, A, c, v⟩).map Kn.enc := by rw [List.map_set]
  rw [hset] at h2
  have hbw : Below w.heap.size w ((((W.setCell ⟨g, j * 7 + 3, none⟩ (.slice A v.nums.length c)).setCell ⟨g, j * 7 + 4, none⟩ (.string v.text)).setCell ⟨g, j * 7 + 5, none⟩ (.int .i64 v.chg)).setCell ⟨g, j * 7 + 6, none⟩ (.int .i64 v.dur)) := by
    have hg : w.heap.size ≤ g := Kd.R_base h.kr g rfl
    exact (((h.bw.setCell hg _).setCell hg _).setCell hg _).setCell hg _
  have hlen : (kn.set j ⟨p.k, A, c, v⟩ : List Kn).length = kn.length := List.length_set
  refine h.row h3 (by rw [hlen]; exact h2) hbw (fun q hq => ?_)
  rcases List.mem_or_eq_of_mem_set hq with hq | rfl
  · exact h.kv q hq
  · exact hv
end
end Go.Proofs.Ytogpjenmfgpfiaa.QInputsScript
