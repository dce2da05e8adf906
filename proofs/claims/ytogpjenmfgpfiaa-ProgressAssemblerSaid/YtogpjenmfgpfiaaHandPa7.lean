/-
  ProgressAssembler: the plain law: the assembler's maps and the reference's list say the same.
-/
import Derived.Test.YtogpjenmfgpfiaaHandPa6
import Derived.Test.YtogpjenmfgpfiaaAid
namespace Go.Proofs.Ytogpjenmfgpfiaa.QProgressAssembler
open Go.RowKit Go.Proofs.YtogpjenmfgpfiaaW.PrintWords Go.Proofs.YtogpjenmfgpfiaaW.PrintLast Go.Proofs.YtogpjenmfgpfiaaW.PrintMore Go.Proofs.Ytogpjenmfgpfiaa.Hand Go.Proofs.Ytogpjenmfgpfiaa.Aid
set_option linter.unusedVariables false
set_option linter.unusedSimpArgs false
/-- A token's part of the reference's list, and the token's map. -/
structure RelT (st : List S51) (t : Int) (l : List (Int × Ck)) : Prop where
  eq : st.filter (fun s => decide (s.f0 = t)) = l.map (fun q => q.2.v)
  key : ∀ q ∈ l, q.1 = q.2.v.f1 ∧ 0 ≤ q.1 ∧ q.1 < 1000 ∧ q.2.v.f3.length ≤ 1000
  nd : (l.map (fun q => q.1)).Nodup
  top : ∀ q ∈ l, q.2.v.f2 = true → ∀ q' ∈ l, q'.1 ≤ q.1
def Rel (st : List S51) (ms : List (Int × Tk)) : Prop := ∀ t, RelT st t (tk ms t)
theorem scanA_filter (c : S51) : ∀ st : List S51, scanA st c = scanA (st.filter (fun s => decide (s.f0 = c.f0))) c
  | [] => rfl
  | s :: t => by
    by_cases h : s.f0 = c.f0
    · rw [List.filter_cons_of_pos (by simpa using h), scanA, scanA, if_pos h, if_pos h, scanA_filter c t]
    · rw [List.filter_cons_of_neg (by simpa using h), scanA, if_neg h, scanA_filter c t]
theorem mget_none_of {l : List (Int × Ck)} {x : Int} (h : mget l x = none) : ∀ q ∈ l, q.1 ≠ x := by
  induction l with
  | nil => intro q hq; cases hq
  | cons p t ih =>
    rw [mget] at h
    by_cases c : p.1 = x
    · rw [if_pos c] at h; cases h
    · rw [if_neg c] at h
      intro q hq
      rcases List.mem_cons.1 hq with e | e
      · rw [e]; exact c
      · exact ih h q e
theorem mget_of_mem {l : List (Int × Ck)} {q : Int × Ck} (hn : (l.map (fun q => q.1)).Nodup) (h : q ∈ l) : mget l q.1 = some q.2 := by
  induction l with
  | nil => cases h
  | cons p t ih =>
    rw [List.map_cons, List.nodup_cons] at hn
    rw [mget]
    rcases List.mem_cons.1 h with e | e
    · rw [e, if_pos rfl]
    · rw [if_neg (fun h => hn.1 (by rw [h]; exact List.mem_map_of_mem (f := fun q : Int × Ck => q.1) e)), ih hn.2 e]
theorem mget_some_iff {l : List (Int × Ck)} (hn : (l.map (fun q => q.1)).Nodup) {x : Int} {r : Ck} : mget l x = some r ↔ (x, r) ∈ l := ⟨mget_mem, fun h => mget_of_mem hn h⟩
/-- No element has the sequence number: the scan finds a conflict or nothing. -/
theorem scan_none (c : S51) : ∀ L : List S51, (∀ s ∈ L, s.f0 = c.f0) → (∀ s ∈ L, s.f1 ≠ c.f1) → ((∃ s ∈ L, (s.f2 = true ∧ s.f1 < c.f1) ∨ (c.f2 = true ∧ c.f1 < s.f1)) ∧ scanA L c = 2) ∨ ((∀ s ∈ L, ¬ ((s.f2 = true ∧ s.f1 < c.f1) ∨ (c.f2 = true ∧ c.f1 < s.f1))) ∧ scanA L c = 0)
  | [], _, _ => .inr ⟨fun _ h => (by cases h), rfl⟩
  | s :: t, h0, h1 => by
    rw [scanA, if_pos (h0 s List.mem_cons_self), if_neg (fun h => h1 s List.mem_cons_self h.1)]
    by_cases hc : (s.f2 = true ∧ s.f1 < c.f1) ∨ (c.f2 = true ∧ c.f1 < s.f1)
    · rw [if_pos (.inr hc)]
      exact .inl ⟨⟨s, List.mem_cons_self, hc⟩, rfl⟩
    · rw [if_neg (fun h => h.elim (h1 s List.mem_cons_self) hc)]
      rcases scan_none c t (fun x hx => h0 x (List.mem_cons_of_mem _ hx)) (fun x hx => h1 x (List.mem_cons_of_mem _ hx)) with ⟨⟨x, hx, e⟩, e2⟩ | ⟨e, e2⟩
      · exact .inl ⟨⟨x, List.mem_cons_of_mem _ hx, e⟩, e2⟩
      · refine .inr ⟨fun x hx => ?_, e2⟩
        rcases List.mem_cons.1 hx with h | h
        · rw [h]; exact hc
        · exact e x h
/-- One element has the sequence number. -/
theorem scan_some (c s0 : S51) : ∀ L : List S51, (∀ s ∈ L, s.f0 = c.f0) → s0 ∈ L → s0.f1 = c.f1 → (L.map (fun s => s.f1)).Nodup → (∀ s ∈ L, s.f2 = true → ∀ s' ∈ L, s'.f1 ≤ s.f1) →
    (s0.f2 = c.f2 ∧ s0.f3 = c.f3 → scanA L c = 1) ∧ (¬ (s0.f2 = c.f2 ∧ s0.f3 = c.f3) → scanA L c = 2)
  | [], _, hm, _, _, _ => by cases hm
  | s :: t, h0, hm, h1, hn, ht => by
    rw [List.map_cons, List.nodup_cons] at hn
    rw [scanA, if_pos (h0 s List.mem_cons_self)]
    rcases List.mem_cons.1 hm with e | e
    · subst e
      refine ⟨fun h => by rw [if_pos ⟨h1, h⟩], fun h => by rw [if_neg (fun e => h e.2), if_pos (.inl h1)]⟩
    · have hne : s.f1 ≠ c.f1 := fun h => hn.1 (by rw [h, ← h1]; exact List.mem_map_of_mem (f := fun s : S51 => s.f1) e)
      rw [if_neg (fun h => hne h.1)]
      have hlt : ¬ (s.f2 = true ∧ s.f1 < c.f1) := fun h => by
        have := ht s List.mem_cons_self h.1 s0 hm
        omega
      have ih := scan_some c s0 t (fun x hx => h0 x (List.mem_cons_of_mem _ hx)) e h1 hn.2 (fun x hx hl y hy => ht x (List.mem_cons_of_mem _ hx) hl y (List.mem_cons_of_mem _ hy))
      refine ⟨fun h => ?_, fun h => ?_⟩
      · rw [if_neg (fun h' => ?_)]
        · exact ih.1 h
        · rcases h' with h' | h' | h'
          · exact hne h'
          · exact hlt h'
          · have := ht s0 hm (h.1.trans h'.1) s List.mem_cons_self
            omega
      · split
        · rfl
        · exact ih.2 h
def AddP (ms : List (Int × Tk)) (c : S51) (b : Bool) (n : Int) (ms1 : List (Int × Tk)) : Prop :=
  ((c.f0 < 0 ∨ c.f1 < 0 ∨ 1000 ≤ c.f1) ∧ b = false ∧ n = 1 ∧ ms1 = ms) ∨
  (0 ≤ c.f0 ∧ 0 ≤ c.f1 ∧ c.f1 < 1000 ∧ ((1000 < c.f3.length ∧ b = false ∧ n = 2 ∧ ms1 = ms) ∨
    (c.f3.length ≤ 1000 ∧ ((∃ r, ck ms c.f0 c.f1 = some r ∧ b = false ∧ ms1 = ms ∧ (r.v.f2 = c.f2 ∧ r.v.f3 = c.f3 ∧ n = 0 ∨ ¬ (r.v.f2 = c.f2 ∧ r.v.f3 = c.f3) ∧ n = 10)) ∨
      (ck ms c.f0 c.f1 = none ∧ ∃ f g, Bnd (tk ms c.f0) f g ∧ ((Conf c f g ∧ b = false ∧ n = 10 ∧ ms1 = ms) ∨
        (¬ Conf c f g ∧ b = true ∧ n = 0 ∧ ∃ q r, r.v = c ∧ ms1 = mset ms c.f0 ⟨q, mset (tk ms c.f0) c.f1 r⟩)))))))
theorem RelT.mem {st : List S51} {t : Int} {l : List (Int × Ck)} (h : RelT st t l) : ∀ s ∈ l.map (fun q => q.2.v), s.f0 = t := by
  intro s hs
  rw [← h.eq] at hs
  simpa using (List.mem_filter.1 hs).2
/-- Both answer alike, and stay related. -/
theorem Rel.agree {st : List S51} {ms : List (Int × Tk)} (hR : Rel st ms) {c : S51} {b b' : Bool} {n n' : Int} {ms1 : List (Int × Tk)} {st' : List S51} (hA : AddP ms c b n ms1) (hS : RefR st c st' b' n') : b = b' ∧ n = n' ∧ Rel st' ms1 := by
  have hT := hR c.f0
  have hmem := hT.mem
  have hsc : scanA st c = scanA ((tk ms c.f0).map (fun q => q.2.v)) c := by rw [scanA_filter, hT.eq]
  rcases hA with ⟨h1, rfl, rfl, rfl⟩ | ⟨p0, p1, p2, hA⟩
  · rcases hS with ⟨_, rfl, rfl, rfl⟩ | ⟨q0, q1, q2, _⟩
    · exact ⟨rfl, rfl, hR⟩
    · omega
  rcases hS with ⟨h1, _⟩ | ⟨_, _, _, hS⟩
  · omega
  rcases hA with ⟨h1, rfl, rfl, rfl⟩ | ⟨p3, hA⟩
  · rcases hS with ⟨_, rfl, rfl, rfl⟩ | ⟨q3, _⟩
    · exact ⟨rfl, rfl, hR⟩
    · omega
  rcases hS with ⟨h1, _⟩ | ⟨_, hS⟩
  · omega
  rcases hA with ⟨r, hr, rfl, rfl, hA⟩ | ⟨hn, f, g, hB, hA⟩
  · have hrm := mget_mem hr
    have hk := hT.key _ hrm
    have hmap : ((tk ms1 c.f0).map (fun q => q.2.v)).map (fun s => s.f1) = (tk ms1 c.f0).map (fun q => q.1) := by
      rw [List.map_map]
      exact List.map_congr_left (fun q hq => ((hT.key q hq).1).symm)
    have hs := scan_some c r.v _ hmem (List.mem_map_of_mem (f := fun q : Int × Ck => q.2.v) hrm) hk.1.symm (by rw [hmap]; exact hT.nd) (fun s hs hl s' hs' => by
      obtain ⟨q, hq, rfl⟩ := List.mem_map.1 hs
      obtain ⟨q', hq', rfl⟩ := List.mem_map.1 hs'
      have := hT.top q hq hl q' hq'
      rw [(hT.key q hq).1, (hT.key q' hq').1] at this
      exact this)
    rw [← hsc] at hs
    rcases hA with ⟨h2, h3, rfl⟩ | ⟨h2, rfl⟩
    · have h := hs.1 ⟨h2, h3⟩
      rcases hS with ⟨_, rfl, rfl, rfl⟩ | ⟨e, _⟩ | ⟨e, _⟩
      · exact ⟨rfl, rfl, hR⟩
      · omega
      · omega
    · have h := hs.2 h2
      rcases hS with ⟨e, _⟩ | ⟨_, rfl, rfl, rfl⟩ | ⟨e, _⟩
      · omega
      · exact ⟨rfl, rfl, hR⟩
      · omega
  · have hne := mget_none_of hn
    have hs := scan_none c _ hmem (fun s hs => by
      obtain ⟨q, hq, rfl⟩ := List.mem_map.1 hs
      rw [← (hT.key q hq).1]
      exact hne q hq)
    rw [← hsc] at hs
    rcases hA with ⟨hC, rfl, rfl, rfl⟩ | ⟨hC, rfl, rfl, q, r, rfl, rfl⟩
    · have h : scanA st c = 2 := by
        rcases hs with ⟨_, h⟩ | ⟨h, _⟩
        · exact h
        · exfalso
          rcases hC with ⟨e1, e2⟩ | ⟨e1, e2⟩
          · rcases hB.fin with e | ⟨q, hq, e3, e4⟩
            · omega
            · have := h _ (List.mem_map_of_mem (f := fun q : Int × Ck => q.2.v) hq)
              rw [← (hT.key q hq).1] at this
              exact this (.inl ⟨e3, by omega⟩)
          · rcases hB.top with ⟨e, _⟩ | ⟨q, hq, e3⟩
            · omega
            · have := h _ (List.mem_map_of_mem (f := fun q : Int × Ck => q.2.v) hq)
              rw [← (hT.key q hq).1] at this
              exact this (.inr ⟨e1, by omega⟩)
      rcases hS with ⟨e, _⟩ | ⟨_, rfl, rfl, rfl⟩ | ⟨e, _⟩
      · omega
      · exact ⟨rfl, rfl, hR⟩
      · omega
    · have h : scanA st r.v = 0 := by
        rcases hs with ⟨⟨s, hs, h⟩, _⟩ | ⟨_, h⟩
        · exfalso
          obtain ⟨q, hq, rfl⟩ := List.mem_map.1 hs
          rw [← (hT.key q hq).1] at h
          have hle := hB.le q hq
          rcases h with ⟨e1, e2⟩ | ⟨e1, e2⟩
          · refine hC (.inl ?_)
            rcases hB.fin with e | ⟨q', hq', e3, e4⟩
            · exact absurd e (hle.2 e1)
            · have := hT.top q hq e1 q' hq'
              have := (hT.key q' hq').2.1
              omega
          · exact hC (.inr ⟨e1, by omega⟩)
        · exact h
      rcases hS with ⟨e, _⟩ | ⟨e, _⟩ | ⟨_, rfl, rfl, rfl⟩
      · omega
      · omega
      · refine ⟨rfl, rfl, fun t => ?_⟩
        by_cases ht : r.v.f0 = t
        · subst ht
          rw [tk_mset]
          have he : mset (tk ms r.v.f0) r.v.f1 r = tk ms r.v.f0 ++ [(r.v.f1, r)] := mset_none _ hn
          rw [he]
          refine ⟨by rw [List.filter_append, hT.eq, List.map_append, List.filter_cons_of_pos (by simp)]; rfl, fun q hq => ?_, ?_, fun q hq hl q' hq' => ?_⟩
          · rcases List.mem_append.1 hq with h | h
            · exact hT.key q h
            · obtain rfl := List.mem_singleton.1 h
              exact ⟨rfl, p1, p2, p3⟩
          · rw [List.map_append, List.nodup_append]
            refine ⟨hT.nd, by simp, fun a ha b hb e => ?_⟩
            obtain ⟨q, hq, rfl⟩ := List.mem_map.1 ha
            simp at hb
            exact hne q hq (e.trans hb)
          · rcases List.mem_append.1 hq with h1 | h1
            · rcases List.mem_append.1 hq' with h2 | h2
              · exact hT.top q h1 hl q' h2
              · obtain rfl := List.mem_singleton.1 h2
                show r.v.f1 ≤ q.1
                rcases hB.fin with e | ⟨x, hx, e3, e4⟩
                · exact absurd e ((hB.le q h1).2 hl)
                · have a1 := hT.top q h1 hl x hx
                  have a2 := (hT.key x hx).2.1
                  have a3 : ¬ (0 ≤ f ∧ f < r.v.f1) := fun e => hC (.inl e)
                  omega
            · obtain rfl := List.mem_singleton.1 h1
              show q'.1 ≤ r.v.f1
              rcases List.mem_append.1 hq' with h2 | h2
              · have a1 := (hB.le q' h2).1
                have a3 : ¬ (r.v.f1 < g) := fun e => hC (.inr ⟨hl, e⟩)
                omega
              · obtain rfl := List.mem_singleton.1 h2
                exact Int.le_refl _
        · have hT2 := hR t
          rw [tk_mset_ne ms _ ht]
          refine ⟨?_, hT2.key, hT2.nd, hT2.top⟩
          rw [List.filter_append, hT2.eq, List.filter_cons_of_neg (by simpa using ht)]
          simp
end Go.Proofs.Ytogpjenmfgpfiaa.QProgressAssembler
