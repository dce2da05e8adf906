/-
  The reference's MergeEdits.
-/
import Derived.Test.YtbfedkmiekbcmaaMgTexteditTransformEqualsReference
namespace Go.Proofs.Ytbfedkmiekbcmaa.PrTexteditTransformEqualsReference
open Go.RowKit Go.Proofs.YtbfedkmiekbcmaaW.PrintWords Go.Proofs.YtbfedkmiekbcmaaW.PrintLast Go.Proofs.YtbfedkmiekbcmaaW.PrintMore Go.Proofs.Ytbfedkmiekbcmaa.QTexteditTransformEqualsReference Go.Proofs.Ytbfedkmiekbcmaa.Aid
set_option linter.unusedSimpArgs false
set_option linter.unusedVariables false
set_option linter.unusedSectionVars false
theorem insO_at (o : Int) (s : ByteArray) {j : Nat} (h : j < s.size) : (insO o s).take (j + 1) = (insO o s).take j ++ [⟨bt s j, o + j⟩] := by
  rw [insO_take o s h, bt_getD s j h]
def sideL (b : Bool) (T : ByteArray) (off : Int) : List S200 := if b = true then insO off T else insB (-1) T
def sideO (b : Bool) (T : ByteArray) (off : Int) : Int := if b = true then off + T.size else off
theorem mg_side (fl : Bool) (T U : ByteArray) (off : Int) : sideL (true == fl) T off ++ sideL (false == fl) U (sideO (true == fl) T off) = mgI fl T U off ∧ sideO (false == fl) U (sideO (true == fl) T off) = mgO fl T U off := by
  cases fl <;> exact ⟨rfl, rfl⟩
section
variable (S : ByteArray) (L R : List S137) (fl : Bool) (ow : List S137)
theorem l2_ev (T : ByteArray) (acc : List S193) (off : Int) (i x13 : Int) (x14 : Bool) (hT : T.size ≤ 1000000) (ha : acc.length + T.size ≤ 1000000000) (ho : 0 ≤ off) (ho2 : off ≤ 1000000000) {Q : List S193}
    (hfin : Ev (fun k => glossatorref4_MergeEdits.l1 k S L R fl ow (acc ++ (sideL (x14 == fl) T off).map cc) (sideO (x14 == fl) T off) i (wrap64 (x13 + 1))) Q) :
    Ev (fun k => glossatorref4_MergeEdits.l2 k S L R fl ow acc off i x13 x14 T 0) Q := by
  cases hb : (x14 == fl) with
  | true =>
    rw [hb] at hfin
    have go : ∀ (d j : Nat), j + d = T.size → Ev (fun k => glossatorref4_MergeEdits.l2 k S L R fl ow (acc ++ ((insO off T).take j).map cc) (off + j) i x13 x14 T (j : Int)) Q := by
      intro d
      induction d with
      | zero =>
        intro j hj
        obtain rfl : j = T.size := by omega
        refine Ev.stepK hfin (fun k => ?_)
        simp only [glossatorref4_MergeEdits.l2]
        rw [if_neg (by omega), List.take_of_length_le (by rw [insO_length]; omega)]
        rfl
      | succ d ih =>
        intro j hj
        refine Ev.stepK (ih (j + 1) (by omega)) (fun k => ?_)
        simp only [glossatorref4_MergeEdits.l2]
        rw [if_pos (by omega), if_pos hb, if_pos (by omega), if_pos (by rw [List.length_append, List.length_map, List.length_take, insO_length]; omega), insO_at off T (by omega), List.map_append, ← List.append_assoc, wrap_id (n := (j : Int) + 1) (by omega) (by omega), wrap_id (n := off + (j : Int) + 1) (by omega) (by omega), show ((j + 1 : Nat) : Int) = (j : Int) + 1 by omega, Int.add_assoc]
        rfl
    have := go T.size 0 (by omega)
    simpa using this
  | false =>
    rw [hb] at hfin
    have go : ∀ (d j : Nat), j + d = T.size → Ev (fun k => glossatorref4_MergeEdits.l2 k S L R fl ow (acc ++ ((insB (-1) T).take j).map cc) off i x13 x14 T (j : Int)) Q := by
      intro d
      induction d with
      | zero =>
        intro j hj
        obtain rfl : j = T.size := by omega
        refine Ev.stepK hfin (fun k => ?_)
        simp only [glossatorref4_MergeEdits.l2]
        rw [if_neg (by omega), List.take_of_length_le (by rw [insB_length]; omega)]
        rfl
      | succ d ih =>
        intro j hj
        refine Ev.stepK (ih (j + 1) (by omega)) (fun k => ?_)
        simp only [glossatorref4_MergeEdits.l2]
        rw [if_pos (by omega), if_neg (by rw [hb]; simp), if_pos (by omega), if_pos (by rw [List.length_append, List.length_map, List.length_take, insB_length]; omega), insB_at (-1) T (by omega), List.map_append, ← List.append_assoc, wrap_id (n := (j : Int) + 1) (by omega) (by omega), show ((j + 1 : Nat) : Int) = (j : Int) + 1 by omega]
        rfl
    have := go T.size 0 (by omega)
    simpa using this
theorem sideL_length (b : Bool) (T : ByteArray) (off : Int) : (sideL b T off).length = T.size := by
  unfold sideL
  split
  · exact insO_length _ _
  · exact insB_length _ _
theorem sideO_range (b : Bool) (T : ByteArray) (off : Int) : off ≤ sideO b T off ∧ sideO b T off ≤ off + T.size := by
  unfold sideO
  split <;> omega
variable (hl : L.length ≤ 1000) (hr : R.length ≤ 1000)
include hl hr
/-- Both sides' texts at an offset. -/
theorem texts_ev (acc : List S193) (off : Int) (i : Int) (hi : 0 ≤ i) (h1 : (insF i L).size ≤ 5000) (h2 : (insF i R).size ≤ 5000) (ha : acc.length ≤ 900000000) (ho : 0 ≤ off) (ho2 : off ≤ 900000000) {Q : List S193}
    (hfin : Ev (fun k => glossatorref4_MergeEdits.l1 k S L R fl ow (acc ++ (mgI fl (insF i L) (insF i R) off).map cc) (mgO fl (insF i L) (insF i R) off) i 2) Q) :
    Ev (fun k => glossatorref4_MergeEdits.l1 k S L R fl ow acc off i 0) Q := by
  obtain ⟨m1, m2⟩ := mg_side fl (insF i L) (insF i R) off
  have r1 := sideO_range (true == fl) (insF i L) off
  refine Ev.stepK (f := fun k => glossatorref4_MergeEdits.j3 k S L R fl ow acc off i 0 true L) ?_ (fun k => by simp only [glossatorref4_MergeEdits.l1]; rw [if_pos (by omega), if_pos trivial]; rfl)
  refine Ev.stepK (Ev.bind (insAt_ev L hl i) (f := fun k t => glossatorref4_MergeEdits.l2 k S L R fl ow acc off i 0 true t 0) ?_) (fun k => by simp only [glossatorref4_MergeEdits.j3])
  refine l2_ev S L R fl ow _ acc off i 0 true (by omega) (by omega) ho (by omega) ?_
  refine Ev.stepK (f := fun k => glossatorref4_MergeEdits.j3 k S L R fl ow (acc ++ (sideL (true == fl) (insF i L) off).map cc) (sideO (true == fl) (insF i L) off) i 1 false R) ?_ (fun k => by
    simp only [glossatorref4_MergeEdits.l1]
    rw [show wrap64 (0 + 1) = 1 by unfold wrap64; omega, if_pos (by omega), if_neg (by omega)]; rfl)
  refine Ev.stepK (Ev.bind (insAt_ev R hr i) (f := fun k t => glossatorref4_MergeEdits.l2 k S L R fl ow (acc ++ (sideL (true == fl) (insF i L) off).map cc) (sideO (true == fl) (insF i L) off) i 1 false t 0) ?_) (fun k => by simp only [glossatorref4_MergeEdits.j3])
  refine l2_ev S L R fl ow _ _ _ i 1 false (by omega) (by rw [List.length_append, List.length_map, sideL_length]; omega) (by omega) (by omega) ?_
  rw [List.append_assoc, ← List.map_append, m1, m2, show wrap64 (1 + 1) = 2 by unfold wrap64; omega]
  exact hfin
end
section
variable (S : ByteArray) (L R : List S137) (fl : Bool) (hl : L.length ≤ 1000) (hr : R.length ≤ 1000) (hS : S.size ≤ 2000) (hLs : ∀ e ∈ L, e.f2.size ≤ 5000) (hRs : ∀ e ∈ R, e.f2.size ≤ 5000)
include hl hr hS hLs hRs
theorem merge0 : ∀ (r : List S200) (i : Nat) (off : Int) (acc : List S193), (trS S).drop i = r → i ≤ S.size → 0 ≤ off → off ≤ i * 5001 → acc.length ≤ i * 10001 → Ev (fun k => glossatorref4_MergeEdits.l0 k S L R fl (own fl L R) acc off (i : Int)) (acc ++ (mgA fl L R r i off).map cc) := by
  intro r
  induction r with
  | nil =>
    intro i off acc hd hi h1 h2 h3
    have hlen : (trS S).length ≤ i := List.drop_eq_nil_iff.1 hd
    rw [trS_length] at hlen
    obtain rfl : i = S.size := by omega
    have q1 := insF_size (S.size : Int) hLs
    have q2 := insF_size (S.size : Int) hRs
    refine Ev.stepK (texts_ev S L R fl (own fl L R) hl hr acc off (S.size : Int) (by omega) q1 q2 (by omega) h1 (by omega) (Q := acc ++ (mgA fl L R [] S.size off).map cc) ?_) (fun k => ?_)
    · rw [mgA]
      refine Ev.some' (fun k => ?_)
      simp only [glossatorref4_MergeEdits.l1]
      rw [if_neg (by omega), if_pos trivial]
    · simp only [glossatorref4_MergeEdits.l0]
      rw [if_pos (by omega)]
  | cons b r ih =>
    intro i off acc hd hi h1 h2 h3
    have hlt : i < S.size := by
      rcases Nat.lt_or_ge i S.size with h | h
      · exact h
      · rw [List.drop_of_length_le (by rw [trS_length]; omega)] at hd; cases hd
    have hlt2 : i < (trS S).length := by rw [trS_length]; exact hlt
    rw [List.drop_eq_getElem_cons hlt2] at hd
    injection hd with hb hd1
    have hb2 : b = ⟨bt S i, i⟩ := by
      have := trS_get S hlt
      rw [List.getElem?_eq_getElem hlt2, hb] at this
      exact Option.some.inj this
    have q1 := insF_size (i : Int) hLs
    have q2 := insF_size (i : Int) hRs
    have ho : (own fl L R).length ≤ 1000 := by unfold own; split <;> assumption
    have hmo : 0 ≤ mgO fl (insF (i : Int) L) (insF (i : Int) R) off ∧ mgO fl (insF (i : Int) L) (insF (i : Int) R) off ≤ off + 5000 := by unfold mgO; split <;> omega
    have hml := mgI_length fl (insF (i : Int) L) (insF (i : Int) R) off
    refine Ev.stepK (texts_ev S L R fl (own fl L R) hl hr acc off (i : Int) (by omega) q1 q2 (by omega) h1 (by omega) (Q := acc ++ (mgA fl L R (b :: r) i off).map cc) ?_) (fun k => ?_)
    · rw [mgA, hb2]
      obtain ⟨M, hM⟩ : ∃ M, mgO fl (insF (i : Int) L) (insF (i : Int) R) off = M := ⟨_, rfl⟩
      obtain ⟨I, hI⟩ : ∃ I, mgI fl (insF (i : Int) L) (insF (i : Int) R) off = I := ⟨_, rfl⟩
      rw [hM] at hmo ⊢
      rw [hI] at hml ⊢
      -- behind the byte: on to the next offset
      have next : ∀ (A : List S200), A.length ≤ 1 → Ev (fun k => (glossatorref4_DeletesByte.f k (own fl L R) (i : Int)).bind fun t => if t = true then glossatorref4_MergeEdits.l0 k S L R fl (own fl L R) (acc ++ (I ++ A).map cc) M ((i + 1 : Nat) : Int) else glossatorref4_MergeEdits.l0 k S L R fl (own fl L R) (acc ++ (I ++ A).map cc) (M + 1) ((i + 1 : Nat) : Int)) (acc ++ (I ++ (A ++ mgA fl L R r (i + 1) (if delF (i : Int) (own fl L R) = true then M else M + 1))).map cc) := by
        intro A hA
        refine Ev.bind (delAt_ev _ ho (i : Int)) ?_
        have hlen : (acc ++ (I ++ A).map cc).length ≤ (i + 1) * 10001 := by rw [List.length_append, List.length_map, List.length_append]; omega
        by_cases c : delF (i : Int) (own fl L R) = true
        · rw [if_pos c]
          refine Ev.pos c ?_
          have := ih (i + 1) M (acc ++ (I ++ A).map cc) hd1 (by omega) hmo.1 (by omega) hlen
          rw [List.append_assoc, ← List.map_append, List.append_assoc] at this
          exact this
        · rw [if_neg c]
          refine Ev.neg c ?_
          have := ih (i + 1) (M + 1) (acc ++ (I ++ A).map cc) hd1 (by omega) (by omega) (by omega) hlen
          rw [List.append_assoc, ← List.map_append, List.append_assoc] at this
          exact this
      have yes : Ev (fun k => glossatorref4_MergeEdits.j5 k S L R fl (own fl L R) (acc ++ I.map cc) M (i : Int) true) (acc ++ (I ++ ([(⟨bt S i, M⟩ : S200)] ++ mgA fl L R r (i + 1) (if delF (i : Int) (own fl L R) = true then M else M + 1))).map cc) := by
        refine Ev.stepK (next [(⟨bt S i, M⟩ : S200)] (by simp)) (fun k => ?_)
        simp only [glossatorref4_MergeEdits.j5]
        rw [if_pos trivial, if_pos (by omega), if_pos (by omega), if_pos (by rw [List.length_append, List.length_map]; omega), Option.bind_some, wrap_id (n := (i : Int) + 1) (by omega) (by omega), wrap_id (n := M + 1) (by omega) (by omega), List.map_append, ← List.append_assoc]
        rfl
      have no : Ev (fun k => glossatorref4_MergeEdits.j5 k S L R fl (own fl L R) (acc ++ I.map cc) M (i : Int) false) (acc ++ (I ++ ([] ++ mgA fl L R r (i + 1) (if delF (i : Int) (own fl L R) = true then M else M + 1))).map cc) := by
        have := next [] (by simp)
        rw [List.append_nil] at this
        refine Ev.stepK this (fun k => ?_)
        simp only [glossatorref4_MergeEdits.j5]
        rw [if_neg (by simp), wrap_id (n := (i : Int) + 1) (by omega) (by omega), wrap_id (n := M + 1) (by omega) (by omega)]
        rfl
      refine Ev.stepK (Ev.bind (delAt_ev L hl (i : Int)) (f := fun k t => if t = true then glossatorref4_MergeEdits.j5 k S L R fl (own fl L R) (acc ++ I.map cc) M (i : Int) false else (glossatorref4_DeletesByte.f k R (i : Int)).bind fun t197 => glossatorref4_MergeEdits.j5 k S L R fl (own fl L R) (acc ++ I.map cc) M (i : Int) (!t197)) ?_) (fun k => ?_)
      · by_cases c : delF (i : Int) L = true
        · refine Ev.pos c ?_
          rw [if_neg (by rw [c]; simp)]
          exact no
        · refine Ev.neg c (Ev.bind (delAt_ev R hr (i : Int)) ?_)
          cases d : delF (i : Int) R with
          | true => rw [if_neg (by simp)]; exact no
          | false =>
            have c2 : delF (i : Int) L = false := by simpa using c
            rw [if_pos (And.intro c2 rfl)]
            exact yes
      · simp only [glossatorref4_MergeEdits.l1]
        rw [if_neg (by omega), if_neg (by omega)]
    · simp only [glossatorref4_MergeEdits.l0]
      rw [if_pos (by omega)]
theorem merge_ev : Ev (fun k => glossatorref4_MergeEdits.f k S L R fl) ((mgA fl L R (trS S) 0 0).map cc) := by
  have := merge0 S L R fl hl hr hS hLs hRs (trS S) 0 0 [] rfl (by omega) (by omega) (by omega) (by simp)
  rw [List.nil_append] at this
  have h2 : Ev (fun k => glossatorref4_MergeEdits.j0 k S L R fl (own fl L R)) ((mgA fl L R (trS S) 0 0).map cc) := Ev.stepK this (fun k => by simp only [glossatorref4_MergeEdits.j0]; rfl)
  unfold glossatorref4_MergeEdits.f
  by_cases c : fl = true
  · refine Ev.pos c ?_
    unfold own at h2
    rw [if_pos c] at h2
    exact h2
  · refine Ev.neg c ?_
    unfold own at h2
    rw [if_neg c] at h2
    exact h2
end
end Go.Proofs.Ytbfedkmiekbcmaa.PrTexteditTransformEqualsReference
