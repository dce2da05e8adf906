/-
  The pure statement of JournalState: State gives the reference's list.
-/
import Derived.Test.YtcikmpcacakfbaaSJournalState
import Derived.Test.YtcikmpcacakfbaaAid
namespace Go.Proofs.Ytcikmpcacakfbaa.Pr
open Go.RowKit Go.Proofs.YtcikmpcacakfbaaW.PrintWords Go.Proofs.YtcikmpcacakfbaaW.PrintLast Go.Proofs.YtcikmpcacakfbaaW.PrintMore Go.Proofs.Ytcikmpcacakfbaa.QJournalState Go.Proofs.Ytcikmpcacakfbaa.Aid Go.Proofs.Ytcikmpcacakfbaa.Hand
set_option linter.unusedVariables false
theorem dropJ {α : Type} {xs t : List α} {x : α} {i : Nat} (h : xs.drop i = x :: t) : i < xs.length ∧ xs.drop (i + 1) = t ∧ (∀ d, xs.getD ((i : Int)).toNat d = x) ∧ xs.take (i + 1) = xs.take i ++ [x] := by
  have hl : i < xs.length := by
    rcases Nat.lt_or_ge i xs.length with h1 | h1
    · exact h1
    · rw [List.drop_eq_nil_of_le h1] at h; cases h
  rw [List.drop_eq_getElem_cons hl] at h
  injection h with h1 h2
  refine ⟨hl, h2, fun d => ?_, ?_⟩
  · rw [Int.toNat_natCast, List.getD_eq_getElem?_getD, List.getElem?_eq_getElem hl]
    exact h1
  · rw [List.take_add_one, List.getElem?_eq_getElem hl, h1]
    rfl
theorem eqJ_l0 (xs : List S26) (hx : xs.length ≤ 140737488355328) : ∀ (t : List S26) (i : Nat), xs.drop i = t → Ev (fun k => api_QRecord.l0 k xs xs (xs.length : Int) (i : Int)) true
  | [], i, h => by
    have : xs.length ≤ i := by simpa using h
    exact Ev.some' (fun k => by simp only [api_QRecord.l0]; rw [if_neg (by omega)])
  | x :: t, i, h => by
    obtain ⟨h1, h2, h3, _⟩ := dropJ h
    refine Ev.stepK (eqJ_l0 xs hx t (i + 1) h2) (fun k => ?_)
    simp only [api_QRecord.l0]
    rw [if_pos (by omega), if_pos (by omega), if_pos (by omega), if_pos (by omega), if_neg (by simp), wrap_id (by omega) (by omega)]
    rfl
theorem eqJ (xs : List S26) (hx : xs.length ≤ 140737488355328) : Ev (fun k => api_QRecord.f k xs xs) true :=
  Ev.same (eqJ_l0 xs hx xs 0 rfl) (fun k => by unfold api_QRecord.f; rw [if_pos rfl]; rfl)
def lastF (key : ByteArray) (acc : S26) (r : S26) : S26 := if r.f0 = key then r else acc
theorem lastF_eq (key : ByteArray) (l : List S26) (z : S26) : l.foldl (lastF key) z = (lastR l key).getD z := by
  refine snoc_ind (P := fun l => l.foldl (lastF key) z = (lastR l key).getD z) rfl (fun l x ih => ?_) l
  rw [List.foldl_append, ih]
  unfold lastR
  rw [List.reverse_append, List.reverse_singleton, List.singleton_append, List.foldl_cons, List.foldl_nil]
  by_cases h : x.f0 = key
  · rw [List.find?_cons_of_pos (by simpa using h)]
    simp [lastF, h]
  · rw [List.find?_cons_of_neg (by simpa using h)]
    simp [lastF, h]
theorem bytes_iff (a b : ByteArray) : a.toList = b.toList ↔ a = b := by
  rw [ByteArray.toList_eq, ByteArray.toList_eq]
  exact ⟨fun h => ByteArray.ext (Array.toList_inj.mp h), fun h => by rw [h]⟩
theorem state_l2 (l : List S26) (hl : l.length ≤ 100000) (x6 : List S26) (key : ByteArray) (S : List ByteArray) (n : Int) (i : Int) (res : List S26) (hrest : ∀ a : S26, a = l.foldl (lastF key) z26 → Ev (fun k => (if a.f2 = true then (glossatorref3_State.l1 k l x6 S n (wrap64 (i + 1))) else (if x6.length < 3518437208883 then (glossatorref3_State.l1 k l (x6 ++ [(⟨a.f0, a.f1, a.f2⟩ : S26)]) S n (wrap64 (i + 1))) else (none)))) res) :
    ∀ (t : List S26) (j : Nat) (acc : S26), l.drop j = t → acc = (l.take j).foldl (lastF key) z26 → Ev (fun k => glossatorref3_State.l2 k l x6 key S n i l (l.length : Int) (j : Int) acc.f0 acc.f1 acc.f2) res
  | [], j, acc, h, ha => by
    have hj : l.length ≤ j := by simpa using h
    rw [List.take_of_length_le hj] at ha
    refine Ev.stepK (hrest acc ha) (fun k => ?_)
    simp only [glossatorref3_State.l2]
    rw [if_neg (by omega)]
  | x :: t, j, acc, h, ha => by
    obtain ⟨h1, h2, h3, h4⟩ := dropJ h
    have hrd : rd_T26 l (j : Int) = x := h3 z26
    have ih := state_l2 l hl x6 key S n i res hrest t (j + 1) (lastF key acc x) h2 (by rw [h4, List.foldl_append, ← ha]; rfl)
    refine Ev.stepK ih (fun k => ?_)
    simp only [glossatorref3_State.l2]
    rw [if_pos (by omega), if_pos (by omega), if_pos (by omega), hrd]
    by_cases c : x.f0 = key
    · rw [if_pos ((bytes_iff _ _).2 c), wrap_id (by omega) (by omega)]
      simp [lastF, c]
    · rw [if_neg (fun e => c ((bytes_iff _ _).1 e)), wrap_id (by omega) (by omega)]
      simp [lastF, c]
theorem state_l1 (l : List S26) (hl : l.length ≤ 100000) (S : List ByteArray) (hS : S.length ≤ 100000) (hm : ∀ k ∈ S, ∃ r ∈ l, r.f0 = k) : ∀ (t : List ByteArray) (i : Nat), S.drop i = t →
    Ev (fun k => glossatorref3_State.l1 k l ((S.take i).filterMap (fun k => alive (lastR l k))) S (S.length : Int) (i : Int)) (S.filterMap (fun k => alive (lastR l k)))
  | [], i, h => by
    have hi : S.length ≤ i := by simpa using h
    rw [List.take_of_length_le hi]
    exact Ev.some' (fun k => by simp only [glossatorref3_State.l1]; rw [if_neg (by omega)])
  | x :: t, i, h => by
    obtain ⟨h1, h2, h3, h4⟩ := dropJ h
    have hrd : rdOf ByteArray.empty S (i : Int) = x := h3 _
    have ih := state_l1 l hl S hS hm t (i + 1) h2
    have hlen : ((S.take i).filterMap (fun k => alive (lastR l k))).length ≤ 100000 := by
      have := List.length_filterMap_le (fun k => alive (lastR l k)) (S.take i)
      rw [List.length_take] at this
      omega
    refine Ev.stepK (state_l2 l hl ((S.take i).filterMap (fun k => alive (lastR l k))) x S (S.length : Int) (i : Int) _ (fun a ha => ?_) l 0 z26 rfl rfl) (fun k => ?_)
    · rw [lastF_eq] at ha
      have hxm : x ∈ S := List.mem_of_mem_drop (i := i) (by rw [h]; exact List.mem_cons_self)
      obtain ⟨r0, hr0, hk0⟩ := hm x hxm
      cases e : lastR l x with
      | none =>
        unfold lastR at e
        have := List.find?_eq_none.1 e r0 (by simpa using hr0)
        simp [hk0] at this
      | some r =>
        rw [e] at ha
        have ha' : a = r := ha
        subst ha'
        refine Ev.same ih (fun k => ?_)
        rw [h4, List.filterMap_append]
        by_cases hd : a.f2 = true
        · rw [if_pos hd, wrap_id (by omega) (by omega)]
          simp [alive, e, hd]
        · rw [if_neg hd, if_pos (by omega), wrap_id (by omega) (by omega)]
          have hal : [x].filterMap (fun k => alive (lastR l k)) = [a] := by simp [alive, e, hd]
          rw [hal]
          rfl
    · simp only [glossatorref3_State.l1]
      rw [if_pos (by omega), if_pos (by omega), if_pos (by omega), hrd]
      rfl
theorem sortS_len (k : List ByteArray) : (sortS k).length ≤ k.length := by
  refine snoc_ind (P := fun k => (sortS k).length ≤ k.length) (Nat.le_refl _) (fun k x ih => ?_) k
  rw [sortS_snoc]
  have := insS_len (sortS k) x
  simp
  omega
theorem state_l0 (l : List S26) (hl : l.length ≤ 100000) : ∀ (t : List S26) (i : Nat), l.drop i = t → Ev (fun k => glossatorref3_State.l0 k l ((l.take i).map (fun r => r.f0)) l (l.length : Int) (i : Int)) (stateR l)
  | [], i, h => by
    have hi : l.length ≤ i := by simpa using h
    rw [List.take_of_length_le hi]
    have hsl := sortS_len (l.map (fun r => r.f0))
    have h1 := state_l1 l hl (sortS (l.map (fun r => r.f0))) (by simp at hsl; omega) (fun k hk => by
      obtain ⟨r, hr, e⟩ := List.mem_map.1 (mem_sortS.1 hk)
      exact ⟨r, hr, e⟩) _ 0 rfl
    refine Ev.stepK h1 (fun k => ?_)
    simp only [glossatorref3_State.l0]
    rw [if_neg (by omega)]
    unfold glossatorref3_SortStrings.f
    rw [if_pos (by simp; omega)]
    rfl
  | x :: t, i, h => by
    obtain ⟨h1, h2, h3, h4⟩ := dropJ h
    have hrd : rd_T26 l (i : Int) = x := h3 z26
    refine Ev.stepK (state_l0 l hl t (i + 1) h2) (fun k => ?_)
    simp only [glossatorref3_State.l0]
    rw [if_pos (by omega), if_pos (by omega), if_pos (by omega), if_pos (by simp; omega), hrd, h4, wrap_id (by omega) (by omega)]
    simp
theorem state_ev (l : List S26) (hl : l.length ≤ 100000) : Ev (fun k => glossatorref3_State.f k l) (stateR l) := state_l0 l hl l 0 rfl
theorem example_ev : Ev (fun k => glossatorlaw3_journalExample.f k) true := Ev.of (k := 60) (fun k => glossatorlaw3_journalExample.mono k) (by decide +kernel)
theorem stateR_len (l : List S26) : (stateR l).length ≤ l.length := by
  unfold stateR
  have h1 := List.length_filterMap_le (fun k => alive (lastR l k)) (sortS (l.map (fun r => r.f0)))
  have h2 := sortS_len (l.map (fun r => r.f0))
  simp at h2
  omega
theorem JournalState : glossatorlaw3_JournalState.PureR := by
  intro a0 _
  have hmn : mn (a0.length : Int) 40 = ((min a0.length 40 : Nat) : Int) := by unfold mn; split <;> omega
  obtain ⟨xs, hxs⟩ : ∃ xs, a0.take (min a0.length 40) = xs := ⟨_, rfl⟩
  have hxl : xs.length ≤ 40 := by rw [← hxs, List.length_take]; omega
  refine Ev.rounds (Ev.same (f := fun k => (glossatorlaw3_journalExample.f k).bind fun t173 => (if t173 = true then ((glossatorlaw3_journalExample.f k).bind fun t178 => (if t178 = true then ((journal_State.f xs).bind fun t179 => ((glossatorref3_State.f k xs).bind fun t182 => ((api_QRecord.f k t179 t182).bind fun t185 => (some t185)))) else (some false))) else (some false))) ?_ (fun k => ?_))
  · refine Ev.bind example_ev ?_
    refine Ev.pos rfl ?_
    refine Ev.bind example_ev ?_
    refine Ev.pos rfl ?_
    refine Ev.same (f := fun k => (glossatorref3_State.f k xs).bind fun t182 => ((api_QRecord.f k (stateR xs) t182).bind fun t185 => (some t185))) ?_ (fun k => ?_)
    · refine Ev.bind (state_ev xs (by omega)) ?_
      refine Ev.bind (eqJ (stateR xs) ?_) (Ev.now true)
      have := stateR_len xs
      omega
    · unfold journal_State.f
      rw [if_pos (by omega)]
      rfl
  · unfold glossatorlaw3_JournalState.f
    rw [hmn, if_pos (by omega), if_pos (by omega), Int.toNat_natCast, hxs]
    rfl
end Go.Proofs.Ytcikmpcacakfbaa.Pr
