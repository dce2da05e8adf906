/-
  ProgressAssembler: how the assembler's state turns: a token's new map, a chunk put into a token's map.
-/
import Derived.Test.YtogpjenmfgpfiaaHandPa4
import Derived.WalkSpells
namespace Go.Proofs.Ytogpjenmfgpfiaa.QProgressAssembler
open Go.RowKit Go.Proofs.YtogpjenmfgpfiaaW.PrintWords Go.Proofs.YtogpjenmfgpfiaaW.PrintLast Go.Proofs.YtogpjenmfgpfiaaW.PrintMore Go.Proofs.Ytogpjenmfgpfiaa.Hand
set_option linter.unusedVariables false
set_option linter.unusedSimpArgs false
theorem R_int_own {q : IntKind} {e base : Nat} {w : World} {ok : Nat → Prop} {v : Value} {xs : List Int} (h : Kd.R (Kd.int q) e w base ok v xs) : Kd.R (Kd.int q) e w base (fun k => some k = v.ownBlock) v xs := ⟨fun k hk => hk.symm, h.2⟩
section
variable {κ β : Type} [DecidableEq κ]
theorem mset_self {m : List (κ × β)} {x : κ} {v : β} (h : mget m x = some v) : mset m x v = m := by
  induction m with
  | nil => cases h
  | cons p t ih =>
    rw [mget] at h
    rw [mset]
    by_cases c : p.1 = x
    · rw [if_pos c] at h
      rw [if_pos c]
      injection h with h
      subst h c
      rfl
    · rw [if_neg c] at h
      rw [if_neg c, ih h]
theorem mset_mset (m : List (κ × β)) (x : κ) (v v' : β) : mset (mset m x v) x v' = mset m x v' := by
  induction m with
  | nil => simp [mset]
  | cons p t ih =>
    by_cases c : p.1 = x
    · simp [mset, c]
    · simp [mset, c, ih]
theorem mset_none {m : List (κ × β)} {x : κ} (v : β) (h : mget m x = none) : mset m x v = m ++ [(x, v)] := by
  induction m with
  | nil => rfl
  | cons p t ih =>
    rw [mget] at h
    by_cases c : p.1 = x
    · rw [if_pos c] at h; cases h
    · rw [if_neg c] at h
      rw [mset, if_neg c, ih h]; rfl
theorem mem_mset {m : List (κ × β)} {x : κ} {v : β} {p : κ × β} (h : p ∈ mset m x v) : p = (x, v) ∨ p ∈ m := by
  induction m with
  | nil => rw [mset] at h; exact .inl (List.mem_singleton.1 h)
  | cons q t ih =>
    by_cases c : q.1 = x
    · rw [mset, if_pos c] at h
      rcases List.mem_cons.1 h with h | h
      · exact .inl h
      · exact .inr (List.mem_cons_of_mem _ h)
    · rw [mset, if_neg c] at h
      rcases List.mem_cons.1 h with h | h
      · exact .inr (h ▸ List.mem_cons_self)
      · exact (ih h).imp_right (List.mem_cons_of_mem _)
end
theorem mem_mset_ne {ms : List (Int × Tk)} {t : Int} {k v : Tk} {p : Int × Tk} (hn : (ms.map (fun p => p.2.b)).Nodup) (hk : mget ms t = some k) (h : p ∈ mset ms t v) : p = (t, v) ∨ (p ∈ ms ∧ p.2.b ≠ k.b) := by
  induction ms with
  | nil => cases hk
  | cons q l ih =>
    rw [List.map_cons, List.nodup_cons] at hn
    rw [mget] at hk
    by_cases c : q.1 = t
    · rw [if_pos c] at hk
      rw [mset, if_pos c] at h
      injection hk with hk
      rcases List.mem_cons.1 h with h | h
      · exact .inl h
      · refine .inr ⟨List.mem_cons_of_mem _ h, fun e => hn.1 ?_⟩
        rw [hk, ← e]
        exact List.mem_map_of_mem h
    · rw [if_neg c] at hk
      rw [mset, if_neg c] at h
      rcases List.mem_cons.1 h with h | h
      · refine .inr ⟨h ▸ List.mem_cons_self, fun e => hn.1 ?_⟩
        rw [← h, e]
        exact List.mem_map_of_mem (mget_mem hk)
      · exact (ih hn.2 hk h).imp_right (fun e => ⟨List.mem_cons_of_mem _ e.1, e.2⟩)
theorem mset_blocks {ms : List (Int × Tk)} {t : Int} {k v : Tk} (hk : mget ms t = some k) (hb : v.b = k.b) : (mset ms t v).map (fun p => p.2.b) = ms.map (fun p => p.2.b) := by
  induction ms with
  | nil => cases hk
  | cons q l ih =>
    rw [mget] at hk
    by_cases c : q.1 = t
    · rw [if_pos c] at hk
      injection hk with hk
      rw [mset, if_pos c, List.map_cons, List.map_cons, hk]
      simp [hb]
    · rw [if_neg c] at hk
      rw [mset, if_neg c, List.map_cons, List.map_cons, ih hk]
theorem mset_outer {ms : List (Int × Tk)} {t : Int} {k v : Tk} (hk : mget ms t = some k) (hb : v.b = k.b) : (mset ms t v).map (fun p => (p.1, Value.map (some p.2.b))) = ms.map (fun p => (p.1, Value.map (some p.2.b))) := by
  rw [mset_map (fun q : Tk => Value.map (some q.b)) ms t v, hb, mset_self]
  rw [mget_map (fun q : Tk => Value.map (some q.b)), hk]
  rfl
theorem AsI.mem_lt {ab om : Nat} {ms : List (Int × Tk)} {W : World} (h : AsI ab om ms W) {p : Int × Tk} (hp : p ∈ ms) : p.2.b < W.heap.size := (h.2.2.1 p hp).lt
/-- A chunk comes into a token's map. -/
theorem AsI.put {ab om : Nat} {ms : List (Int × Tk)} {W W' : World} (h : AsI ab om ms W) {t s : Int} {r : Ck} {k : Tk} (hk : mget ms t = some k) (hm : MapIs (Value.int .i64) W' k.b (encL (mset k.l s r))) (hg : W.grownBy W' (some k.b)) (hr : CkOK W r) :
    AsI ab om (mset ms t ⟨k.b, mset k.l s r⟩) W' := by
  obtain ⟨g1, g2, g3, g4, g5, g6⟩ := h
  have hkm := mget_mem hk
  have hc : Chg (fun j => j = k.b) W W' := Chg.of_grown hg (fun j e => (Option.some.inj e).symm)
  have hO : ∀ j, j = k.b → j < W.heap.size → Other W j := fun j e _ => e ▸ other_map (g3 _ hkm)
  have hbl := mset_blocks (v := ⟨k.b, mset k.l s r⟩) hk rfl
  have hmo := mset_outer (v := ⟨k.b, mset k.l s r⟩) hk rfl
  have hkb : k.b ∈ ms.map (fun p => p.2.b) := List.mem_map_of_mem (f := fun p : Int × Tk => p.2.b) hkm
  refine ⟨hc.at g1 (fun e => (g3 _ hkm).cells g1 e.symm), ?_, fun p hp => ?_, fun p hp q hq => ?_, by rw [hbl]; exact g5, by rw [hbl]; exact g6⟩
  · rw [hmo]
    exact g2.move (hc.block om g2.lt (fun e => g6 (e ▸ hkb)))
  · rcases mem_mset_ne g5 hk hp with e | ⟨e1, e2⟩
    · subst e
      exact hm
    · exact (g3 p e1).move (hc.block _ (g3 p e1).lt e2)
  · rcases mem_mset_ne g5 hk hp with e | ⟨e1, e2⟩
    · subst e
      rcases mem_mset hq with e | e
      · subst e
        exact hr.chg hc hO
      · exact (g4 _ hkm q e).chg hc hO
    · exact (g4 p e1 q hq).chg hc hO
/-- A token's map is laid. -/
theorem AsI.fresh {ab om : Nat} {ms : List (Int × Tk)} {W W' : World} (h : AsI ab om ms W) {t : Int} (hn : mget ms t = none) {b : Nat} (hb : W.heap.size ≤ b) (hm : MapIs (Value.int .i64) W' b []) (ho : MapIs (Value.int .i64) W' om (mset (ms.map (fun p => (p.1, Value.map (some p.2.b)))) t (.map (some b)))) (hc : Chg (fun j => j = om) W W') :
    AsI ab om (mset ms t ⟨b, []⟩) W' := by
  obtain ⟨g1, g2, g3, g4, g5, g6⟩ := h
  have hO : ∀ j, j = om → j < W.heap.size → Other W j := fun j e _ => e ▸ other_map g2
  have e0 := mset_none (v := (⟨b, []⟩ : Tk)) hn
  have hnb : ∀ p ∈ ms, p.2.b ≠ b := fun p hp e => by have := (g3 p hp).lt; omega
  have hol := g2.lt
  refine ⟨hc.at g1 (fun e => g2.cells g1 e.symm), ?_, fun p hp => ?_, fun p hp q hq => ?_, ?_, ?_⟩
  · rw [mset_map (fun q : Tk => Value.map (some q.b)) ms t ⟨b, []⟩]
    exact ho
  · rcases mem_mset hp with e | e
    · subst e
      exact hm
    · exact (g3 p e).move (hc.block _ (g3 p e).lt (fun e' => g6 (e' ▸ List.mem_map_of_mem (f := fun p : Int × Tk => p.2.b) e)))
  · rcases mem_mset hp with e | e
    · subst e
      cases hq
    · exact (g4 p e q hq).chg hc hO
  · rw [e0, List.map_append, List.nodup_append]
    refine ⟨g5, by simp, ?_⟩
    intro a ha c hc' e
    obtain ⟨p, hp, rfl⟩ := List.mem_map.1 ha
    simp at hc'
    exact hnb p hp (e.trans hc')
  · rw [e0, List.map_append, List.mem_append]
    rintro (e | e)
    · exact g6 e
    · simp at e
      omega
theorem tb_mset (ms : List (Int × Tk)) (t : Int) (v : Tk) : tb (mset ms t v) t = some v.b := by rw [tb, mget_mset_same]; rfl
theorem tk_mset (ms : List (Int × Tk)) (t : Int) (v : Tk) : tk (mset ms t v) t = v.l := by rw [tk, mget_mset_same]
theorem tk_mset_ne (ms : List (Int × Tk)) {t t' : Int} (v : Tk) (h : t ≠ t') : tk (mset ms t v) t' = tk ms t' := by rw [tk, mget_mset_ne ms v h]; rfl
theorem tk_none {ms : List (Int × Tk)} {t : Int} (h : mget ms t = none) : tk ms t = [] := by rw [tk, h]
theorem tk_some {ms : List (Int × Tk)} {t : Int} {k : Tk} (h : mget ms t = some k) : tk ms t = k.l := by rw [tk, h]
theorem tb_none {ms : List (Int × Tk)} {t : Int} (h : mget ms t = none) : tb ms t = none := by rw [tb, h]; rfl
theorem tb_some {ms : List (Int × Tk)} {t : Int} {k : Tk} (h : mget ms t = some k) : tb ms t = some k.b := by rw [tb, h]; rfl
end Go.Proofs.Ytogpjenmfgpfiaa.QProgressAssembler
