/-
  ProgressAssembler: the reference's chunk, Assemble and Missing in closed form.
-/
import Derived.Test.YtogpjenmfgpfiaaHandPa7
namespace Go.Proofs.Ytogpjenmfgpfiaa.QProgressAssembler
open Go.RowKit Go.Proofs.YtogpjenmfgpfiaaW.PrintWords Go.Proofs.YtogpjenmfgpfiaaW.PrintLast Go.Proofs.YtogpjenmfgpfiaaW.PrintMore Go.Proofs.Ytogpjenmfgpfiaa.Hand Go.Proofs.Ytogpjenmfgpfiaa.Aid
set_option linter.unusedVariables false
set_option linter.unusedSimpArgs false
theorem dropC {α : Type} {xs t : List α} {x : α} {i : Nat} (h : xs.drop i = x :: t) : i < xs.length ∧ xs.drop (i + 1) = t ∧ (∀ d, xs.getD ((i : Int)).toNat d = x) := by
  have hl : i < xs.length := by
    rcases Nat.lt_or_ge i xs.length with h1 | h1
    · exact h1
    · rw [List.drop_eq_nil_of_le h1] at h; cases h
  rw [List.drop_eq_getElem_cons hl] at h
  injection h with h1 h2
  refine ⟨hl, h2, fun d => ?_⟩
  rw [Int.toNat_natCast, List.getD_eq_getElem?_getD, List.getElem?_eq_getElem hl]
  exact h1
def cres : Option S51 → Int × Int × Bool × List Int × Bool
  | some x => (x.f0, x.f1, x.f2, x.f3, true)
  | none => (0, 0, false, [], false)
theorem chunk_ev (st : List S51) (t s : Int) (hx : st.length ≤ 140737488355328) : ∀ (tl : List S51) (i : Nat), st.drop i = tl → Ev (fun k => glossatorref3_chunk.l0 k t s st (st.length : Int) (i : Int)) (cres (tl.find? (fun x => decide (x.f0 = t ∧ x.f1 = s))))
  | [], i, h => by
    have : st.length ≤ i := by simpa using h
    exact Ev.some' (fun k => by simp only [glossatorref3_chunk.l0]; rw [if_neg (by omega)]; rfl)
  | x :: tl, i, h => by
    obtain ⟨h1, h2, h3⟩ := dropC h
    have hrd : rd_T51 st (i : Int) = x := h3 z51
    by_cases c0 : x.f0 = t
    · by_cases c1 : x.f1 = s
      · refine Ev.some' (fun k => ?_)
        simp only [glossatorref3_chunk.l0]
        rw [if_pos (by omega), if_pos (by omega), if_pos (by omega), hrd, if_pos c0, if_pos c1, List.find?_cons_of_pos (by simpa using ⟨c0, c1⟩)]
        rfl
      · refine Ev.stepK (chunk_ev st t s hx tl (i + 1) h2 |> fun e => by rw [List.find?_cons_of_neg (by simp [c1])]; exact e) (fun k => ?_)
        simp only [glossatorref3_chunk.l0]
        rw [if_pos (by omega), if_pos (by omega), if_pos (by omega), hrd, if_pos c0, if_neg c1, wrap_id (by omega) (by omega)]
        rfl
    · refine Ev.stepK (chunk_ev st t s hx tl (i + 1) h2 |> fun e => by rw [List.find?_cons_of_neg (by simp [c0])]; exact e) (fun k => ?_)
      simp only [glossatorref3_chunk.l0]
      rw [if_pos (by omega), if_pos (by omega), if_pos (by omega), hrd, if_neg c0, wrap_id (by omega) (by omega)]
      rfl
theorem find_filter (t s : Int) : ∀ st : List S51, st.find? (fun x => decide (x.f0 = t ∧ x.f1 = s)) = (st.filter (fun x => decide (x.f0 = t))).find? (fun x => decide (x.f1 = s))
  | [] => rfl
  | x :: st => by
    by_cases h : x.f0 = t
    · rw [List.filter_cons_of_pos (by simpa using h)]
      by_cases h1 : x.f1 = s
      · rw [List.find?_cons_of_pos (by simpa using ⟨h, h1⟩), List.find?_cons_of_pos (by simpa using h1)]
      · rw [List.find?_cons_of_neg (by simp [h1]), List.find?_cons_of_neg (by simpa using h1), find_filter t s st]
    · rw [List.filter_cons_of_neg (by simpa using h), List.find?_cons_of_neg (by simp [h]), find_filter t s st]
theorem find_mget (s : Int) : ∀ l : List (Int × Ck), (∀ q ∈ l, q.1 = q.2.v.f1) → (l.map (fun q => q.2.v)).find? (fun x => decide (x.f1 = s)) = (mget l s).map (fun r => r.v)
  | [], _ => rfl
  | q :: l, h => by
    have h0 := h q List.mem_cons_self
    rw [List.map_cons, mget]
    by_cases c : q.1 = s
    · rw [List.find?_cons_of_pos (by simpa [← h0] using c), if_pos c]
      rfl
    · rw [List.find?_cons_of_neg (by simpa [← h0] using c), if_neg c]
      exact find_mget s l (fun q hq => h q (List.mem_cons_of_mem _ hq))
theorem RelT.chunk {st : List S51} {t : Int} {l : List (Int × Ck)} (h : RelT st t l) (hx : st.length ≤ 140737488355328) (s : Int) : Ev (fun k => glossatorref3_chunk.f k st t s) (cres ((mget l s).map (fun r => r.v))) := by
  have := chunk_ev st t s hx st 0 rfl
  rw [find_filter, h.eq, find_mget s l (fun q hq => (h.key q hq).1)] at this
  exact this
/-- What Assemble answers. -/
def AsmR (l : List (Int × Ck)) (res : List Int × Bool) : Prop :=
  (∃ F : Nat, res = (catL l (F + 1), true) ∧ (∀ i : Nat, i ≤ F → (mget l (i : Int)).isSome = true) ∧ ∃ r, mget l (F : Int) = some r ∧ r.v.f2 = true) ∨
    (res = ([], false) ∧ ∃ n : Nat, mget l (n : Int) = none ∧ ∀ i : Nat, i < n → ∀ r, mget l (i : Int) = some r → r.v.f2 = false)
theorem RelT.len3 {st : List S51} {t : Int} {l : List (Int × Ck)} (h : RelT st t l) (s : Int) : ((mget l s).getD zCk).v.f3.length ≤ 1000 := by
  cases e : mget l s with
  | none => decide
  | some r => exact (h.key _ (mget_mem e)).2.2.2
theorem RelT.asm {st : List S51} {t : Int} {l : List (Int × Ck)} (h : RelT st t l) (hx : st.length ≤ 140737488355328) : ∀ (d n : Nat), n + d = 1000 → (∀ i : Nat, i < n → ∃ r, mget l (i : Int) = some r ∧ r.v.f2 = false) →
    ∃ res, Ev (fun k => glossatorref3_Assemble.l0 k st t (catL l n) (n : Int)) res ∧ AsmR l res
  | d, n, hd, hn => by
    cases e : mget l (n : Int) with
    | none =>
      refine ⟨([], false), ?_, .inr ⟨rfl, n, e, fun i hi r hr => ?_⟩⟩
      · have hc := h.chunk hx (n : Int)
        rw [e] at hc
        refine Ev.stepK (f := fun k => (glossatorref3_chunk.f k st t (n : Int)).bind fun bt168 => (if bt168.2.2.2.2 = true then (if (catL l n).length + bt168.2.2.2.1.length < 17592186044416 then ((some (catL l n ++ bt168.2.2.2.1 : List Int)).bind fun y176 => (if bt168.2.2.1 = true then (some (y176, true)) else (glossatorref3_Assemble.l0 k st t y176 (wrap64 ((n : Int) + 1))))) else (none)) else (some (([] : List Int), false)))) (Ev.bind hc ?_) (fun k => rfl)
        exact Ev.same (Ev.now _) (fun k => rfl)
      · obtain ⟨r', hr', h'⟩ := hn i hi
        rw [hr'] at hr
        rw [← Option.some.inj hr]
        exact h'
    | some r =>
      have hm := mget_mem e
      have hk := h.key _ hm
      have hk1 : (n : Int) < 1000 := hk.2.2.1
      have hcl := catL_len (l := l) (fun s => h.len3 s) n
      have hst : catL l (n + 1) = catL l n ++ r.v.f3 := by rw [catL, e]; rfl
      have hc := h.chunk hx (n : Int)
      rw [e] at hc
      have hlim : (catL l n).length + r.v.f3.length < 17592186044416 := by
        have h3 : r.v.f3.length ≤ 1000 := hk.2.2.2
        omega
      cases d with
      | zero => omega
      | succ d =>
        by_cases hl : r.v.f2 = true
        · refine ⟨(catL l (n + 1), true), ?_, .inl ⟨n, rfl, fun i hi => ?_, r, e, hl⟩⟩
          · refine Ev.stepK (f := fun k => (glossatorref3_chunk.f k st t (n : Int)).bind fun bt168 => (if bt168.2.2.2.2 = true then (if (catL l n).length + bt168.2.2.2.1.length < 17592186044416 then ((some (catL l n ++ bt168.2.2.2.1 : List Int)).bind fun y176 => (if bt168.2.2.1 = true then (some (y176, true)) else (glossatorref3_Assemble.l0 k st t y176 (wrap64 ((n : Int) + 1))))) else (none)) else (some (([] : List Int), false)))) (Ev.bind hc ?_) (fun k => rfl)
            refine Ev.same (Ev.now _) (fun k => ?_)
            show (if true = true then (if (catL l n).length + r.v.f3.length < 17592186044416 then _ else none) else _) = _
            rw [if_pos rfl, if_pos hlim, Option.bind_some]
            show (if r.v.f2 = true then _ else _) = _
            rw [if_pos hl, hst]
            rfl
          · rcases Nat.lt_or_ge i n with h1 | h1
            · obtain ⟨r', hr', _⟩ := hn i h1
              rw [hr']; rfl
            · obtain rfl : i = n := by omega
              rw [e]; rfl
        · obtain ⟨res, hev, hres⟩ := RelT.asm h hx d (n + 1) (by omega) (fun i hi => by
            rcases Nat.lt_or_ge i n with h1 | h1
            · exact hn i h1
            · obtain rfl : i = n := by omega
              exact ⟨r, e, by simpa using hl⟩)
          refine ⟨res, ?_, hres⟩
          refine Ev.stepK (f := fun k => (glossatorref3_chunk.f k st t (n : Int)).bind fun bt168 => (if bt168.2.2.2.2 = true then (if (catL l n).length + bt168.2.2.2.1.length < 17592186044416 then ((some (catL l n ++ bt168.2.2.2.1 : List Int)).bind fun y176 => (if bt168.2.2.1 = true then (some (y176, true)) else (glossatorref3_Assemble.l0 k st t y176 (wrap64 ((n : Int) + 1))))) else (none)) else (some (([] : List Int), false)))) (Ev.bind hc ?_) (fun k => rfl)
          refine Ev.same hev (fun k => ?_)
          show (if true = true then (if (catL l n).length + r.v.f3.length < 17592186044416 then _ else none) else _) = _
          rw [if_pos rfl, if_pos hlim, Option.bind_some]
          show (if r.v.f2 = true then _ else _) = _
          rw [if_neg hl, hst, wrap_id (by omega) (by omega)]
          rfl
theorem RelT.assemble {st : List S51} {t : Int} {l : List (Int × Ck)} (h : RelT st t l) (hx : st.length ≤ 140737488355328) : ∃ res, (∃ k, glossatorref3_Assemble.f k st t = some res) ∧ AsmR l res := by
  obtain ⟨res, he, hr⟩ := h.asm hx 1000 0 (by omega) (fun i hi => by omega)
  exact ⟨res, he.rounds, hr⟩
theorem keys_range {l : List (Int × Ck)} (hn : (l.map (fun q => q.1)).Nodup) {F : Nat} (hk : ∀ q ∈ l, 0 ≤ q.1 ∧ q.1 ≤ (F : Int)) : l.length ≤ F + 1 ∧ (l.length = F + 1 → ∀ i : Nat, i ≤ F → ∃ r, mget l (i : Int) = some r) ∧ ((∀ i : Nat, i ≤ F → (mget l (i : Int)).isSome = true) → l.length = F + 1) := by
  have hinj : ((List.range (F + 1)).map (fun i : Nat => (i : Int))).Nodup := by
    rw [List.nodup_iff_pairwise_ne, List.pairwise_map]
    exact (List.nodup_iff_pairwise_ne.1 List.nodup_range).imp (fun h e => h (by omega))
  have hsub : l.map (fun q => q.1) ⊆ (List.range (F + 1)).map (fun i : Nat => (i : Int)) := by
    intro x hx
    obtain ⟨q, hq, rfl⟩ := List.mem_map.1 hx
    have := hk q hq
    exact List.mem_map.2 ⟨q.1.toNat, by rw [List.mem_range]; omega, by omega⟩
  have hle := List.Nodup.length_le_of_subset hn hsub
  simp only [List.length_map, List.length_range] at hle
  refine ⟨hle, fun hl i hi => ?_, fun ha => ?_⟩
  · cases e : mget l (i : Int) with
    | some r => exact ⟨r, rfl⟩
    | none =>
      exfalso
      have hne := mget_none_of e
      have hs2 : l.map (fun q => q.1) ⊆ ((List.range (F + 1)).map (fun i : Nat => (i : Int))).erase (i : Int) := fun x hx => by
        rw [List.Nodup.mem_erase_iff hinj]
        refine ⟨?_, hsub hx⟩
        obtain ⟨q, hq, rfl⟩ := List.mem_map.1 hx
        exact hne q hq
      have hle2 := List.Nodup.length_le_of_subset hn hs2
      rw [List.length_erase_of_mem (List.mem_map.2 ⟨i, by rw [List.mem_range]; omega, rfl⟩)] at hle2
      simp only [List.length_map, List.length_range] at hle2
      omega
  · have hs3 : ((List.range (F + 1)).map (fun i : Nat => (i : Int))) ⊆ l.map (fun q => q.1) := fun x hx => by
      obtain ⟨i, hi, rfl⟩ := List.mem_map.1 hx
      rw [List.mem_range] at hi
      obtain ⟨r, hr⟩ := Option.isSome_iff_exists.1 (ha i (by omega))
      exact List.mem_map.2 ⟨_, mget_mem hr, rfl⟩
    have hle3 := List.Nodup.length_le_of_subset hinj hs3
    simp only [List.length_map, List.length_range] at hle3
    omega
/-- Result's answer and Assemble's. -/
theorem RelT.res {st : List S51} {t : Int} {l : List (Int × Ck)} (h : RelT st t l) {f g : Int} (hB : Bnd l f g) {res : List Int × Bool} (hr : AsmR l res) :
    ((f < 0 ∨ (l.length : Int) ≠ f + 1) ∧ res = ([], false)) ∨ (0 ≤ f ∧ (l.length : Int) = f + 1 ∧ res = (catL l (f + 1).toNat, true)) := by
  rcases hr with ⟨F, rfl, ha, r, hF, hl⟩ | ⟨rfl, n, hn, hno⟩
  · have hm := mget_mem hF
    have hf : f = (F : Int) := by
      rcases hB.fin with e | ⟨q, hq, e1, e2⟩
      · exact absurd e ((hB.le _ hm).2 hl)
      · have a := h.top q hq e1 _ hm
        have b := h.top _ hm hl q hq
        have a' : (F : Int) ≤ q.1 := a
        have b' : q.1 ≤ (F : Int) := b
        omega
    subst hf
    have := (keys_range h.nd (F := F) (fun q hq => ⟨(h.key q hq).2.1, h.top _ hm hl q hq⟩)).2.2 ha
    exact .inr ⟨by omega, by omega, by rw [show ((F : Int) + 1).toNat = F + 1 by omega]⟩
  · by_cases hc : f < 0 ∨ (l.length : Int) ≠ f + 1
    · exact .inl ⟨hc, rfl⟩
    · exfalso
      have h0 : 0 ≤ f := by omega
      have h1 : (l.length : Int) = f + 1 := by omega
      rcases hB.fin with e | ⟨q, hq, e1, e2⟩
      · omega
      · obtain ⟨F, rfl⟩ : ∃ F : Nat, f = (F : Int) := ⟨f.toNat, by omega⟩
        have hall := (keys_range h.nd (F := F) (fun x hx => ⟨(h.key x hx).2.1, by have := h.top q hq e1 x hx; omega⟩)).2.1 (by omega)
        have hnF : F < n := by
          rcases Nat.lt_or_ge F n with h2 | h2
          · exact h2
          · obtain ⟨r, hr⟩ := hall n h2
            rw [hn] at hr; cases hr
        have := hno F hnF q.2 (by rw [← e2]; exact mget_of_mem h.nd hq)
        rw [e1] at this
        cases this
/-! Missing -/
theorem mx_fold (L : List S51) : ∀ a : Int, a ≤ L.foldl (fun a s => mx a s.f1) a ∧ (∀ s ∈ L, s.f1 ≤ L.foldl (fun a s => mx a s.f1) a) ∧ (L.foldl (fun a s => mx a s.f1) a = a ∨ ∃ s ∈ L, s.f1 = L.foldl (fun a s => mx a s.f1) a) := by
  induction L with
  | nil => exact fun a => ⟨Int.le_refl _, fun s h => (by cases h), .inl rfl⟩
  | cons x L ih =>
    intro a
    obtain ⟨h1, h2, h3⟩ := ih (mx a x.f1)
    have hm : a ≤ mx a x.f1 ∧ x.f1 ≤ mx a x.f1 ∧ (mx a x.f1 = a ∨ mx a x.f1 = x.f1) := by unfold mx; split <;> omega
    rw [List.foldl_cons]
    refine ⟨by omega, fun s hs => ?_, ?_⟩
    · rcases List.mem_cons.1 hs with e | e
      · rw [e]; omega
      · exact h2 s e
    · rcases h3 with e | ⟨s, hs, e⟩
      · rcases hm.2.2 with e2 | e2
        · exact .inl (by omega)
        · exact .inr ⟨x, List.mem_cons_self, by omega⟩
      · exact .inr ⟨s, List.mem_cons_of_mem _ hs, e⟩
theorem RelT.miss1 {st : List S51} {t : Int} {l : List (Int × Ck)} (h : RelT st t l) (hx : st.length ≤ 140737488355328) (g : Int) (hg : g < 1000) : ∀ (d n : Nat), n + d = g.toNat → Ev (fun k => glossatorref3_Missing.l1 k st t g (missL l n) (n : Int)) (missL l g.toNat)
  | 0, n, hd => by
    refine Ev.some' (fun k => ?_)
    simp only [glossatorref3_Missing.l1]
    rw [if_neg (by omega), show g.toNat = n by omega]
  | d + 1, n, hd => by
    have ih := RelT.miss1 h hx g hg d (n + 1) (by omega)
    have hc := h.chunk hx (n : Int)
    have hlen := missL_len l n
    refine Ev.stepK (f := fun k => (glossatorref3_chunk.f k st t (n : Int)).bind fun bt181 => (if bt181.2.2.2.2 = true then (glossatorref3_Missing.l1 k st t g (missL l n) (wrap64 ((n : Int) + 1))) else (if (missL l n).length < 17592186044416 then (glossatorref3_Missing.l1 k st t g (missL l n ++ [(n : Int)]) (wrap64 ((n : Int) + 1))) else (none)))) (Ev.bind hc ?_) (fun k => by simp only [glossatorref3_Missing.l1]; rw [if_pos (by omega)])
    have hm : missL l (n + 1) = missL l n ++ if (mget l (n : Int)).isSome = true then [] else [(n : Int)] := rfl
    cases e : mget l (n : Int) with
    | some r =>
      refine Ev.same ih (fun k => ?_)
      rw [hm, e, wrap_id (by omega) (by omega)]
      simp [cres]
    | none =>
      refine Ev.same ih (fun k => ?_)
      rw [hm, e, wrap_id (by omega) (by omega)]
      have hlim : (missL l n).length < 17592186044416 := by omega
      simp [cres, hlim]
theorem RelT.miss0 {st : List S51} {t : Int} {l : List (Int × Ck)} (h : RelT st t l) (hx : st.length ≤ 140737488355328) (g : Int) (hg : g < 1000) : ∀ (tl : List S51) (i : Nat) (a : Int), st.drop i = tl → (tl.filter (fun s => decide (s.f0 = t))).foldl (fun a s => mx a s.f1) a = g →
    Ev (fun k => glossatorref3_Missing.l0 k st t a st (st.length : Int) (i : Int)) (missL l g.toNat)
  | [], i, a, hd, ha => by
    have : st.length ≤ i := by simpa using hd
    have ha' : a = g := ha
    refine Ev.stepK (h.miss1 hx g hg g.toNat 0 (by omega)) (fun k => ?_)
    simp only [glossatorref3_Missing.l0]
    rw [if_neg (by omega), ha']
    rfl
  | x :: tl, i, a, hd, ha => by
    obtain ⟨h1, h2, h3⟩ := dropC hd
    have hrd : rd_T51 st (i : Int) = x := h3 z51
    by_cases c0 : x.f0 = t
    · rw [List.filter_cons_of_pos (by simpa using c0), List.foldl_cons] at ha
      refine Ev.stepK (RelT.miss0 h hx g hg tl (i + 1) _ h2 ha) (fun k => ?_)
      simp only [glossatorref3_Missing.l0]
      rw [if_pos (by omega), if_pos (by omega), if_pos (by omega), hrd, if_pos c0, wrap_id (by omega) (by omega)]
      rfl
    · rw [List.filter_cons_of_neg (by simpa using c0)] at ha
      refine Ev.stepK (RelT.miss0 h hx g hg tl (i + 1) _ h2 ha) (fun k => ?_)
      simp only [glossatorref3_Missing.l0]
      rw [if_pos (by omega), if_pos (by omega), if_pos (by omega), hrd, if_neg c0, wrap_id (by omega) (by omega)]
      rfl
theorem RelT.missing {st : List S51} {t : Int} {l : List (Int × Ck)} (h : RelT st t l) (hx : st.length ≤ 140737488355328) {f g : Int} (hB : Bnd l f g) : ∃ k, glossatorref3_Missing.f k st t = some (missL l g.toNat) := by
  have hg : (st.filter (fun s => decide (s.f0 = t))).foldl (fun a s => mx a s.f1) (-1) = g := by
    rw [h.eq]
    obtain ⟨h1, h2, h3⟩ := mx_fold (l.map (fun q => q.2.v)) (-1)
    have key : ∀ q ∈ l, q.1 = q.2.v.f1 := fun q hq => (h.key q hq).1
    have a1 : ∀ q ∈ l, q.1 ≤ (l.map (fun q => q.2.v)).foldl (fun a s => mx a s.f1) (-1) := fun q hq => by rw [key q hq]; exact h2 _ (List.mem_map_of_mem (f := fun q : Int × Ck => q.2.v) hq)
    rcases hB.top with ⟨e1, e2⟩ | ⟨q, hq, e⟩
    · rcases h3 with e | ⟨s, hs, e⟩
      · omega
      · rw [e2] at hs; cases hs
    · have b1 := a1 q hq
      rcases h3 with e3 | ⟨s, hs, e3⟩
      · have := (h.key q hq).2.1; omega
      · obtain ⟨q', hq', rfl⟩ := List.mem_map.1 hs
        have := (hB.le q' hq').1
        rw [key q' hq'] at this
        omega
  have hg2 : g < 1000 := by
    rcases hB.top with ⟨e1, _⟩ | ⟨q, hq, e⟩
    · omega
    · have := (h.key q hq).2.2.1; omega
  exact (h.miss0 hx g hg2 st 0 (-1) rfl hg).rounds
theorem example_ev : ∃ k, glossatorlaw3_chunkExample.f k = some true := (Ev.of (k := 60) (fun k => glossatorlaw3_chunkExample.mono k) (by decide +kernel)).rounds
end Go.Proofs.Ytogpjenmfgpfiaa.QProgressAssembler
