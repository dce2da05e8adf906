/-
  The pure statement of TexteditTransformEqualsReference.
-/
import Derived.Test.YtbfedkmiekbcmaaMrTexteditTransformEqualsReference
namespace Go.Proofs.Ytbfedkmiekbcmaa.PrTexteditTransformEqualsReference
open Go.RowKit Go.Proofs.YtbfedkmiekbcmaaW.PrintWords Go.Proofs.YtbfedkmiekbcmaaW.PrintLast Go.Proofs.YtbfedkmiekbcmaaW.PrintMore Go.Proofs.Ytbfedkmiekbcmaa.QTexteditTransformEqualsReference Go.Proofs.Ytbfedkmiekbcmaa.Aid
set_option linter.unusedSimpArgs false
set_option linter.unusedVariables false
theorem j1_bad (S : ByteArray) (a b : List S137) (e : Int) (he : e ≠ 0) : Ev (fun k => glossatorlaw4_TexteditTransformEqualsReference.j1 k S a b [] [] e e) true := by
  refine Ev.stepK (f := fun k => (glossatorref4_EqualEdits.f k ([] : List S137) ([] : List S137)).bind fun t => if t = true then ((glossatorref4_EqualEdits.f k ([] : List S137) ([] : List S137)).bind fun u => if u = true then some (e == e) else some false) else some false) (Ev.bind (eqE_ev [] (by simp)) (Ev.pos rfl (Ev.bind (eqE_ev [] (by simp)) (Ev.pos rfl ?_)))) (fun k => ?_)
  · rw [beq_self_eq_true]; exact Ev.now _
  · simp only [glossatorlaw4_TexteditTransformEqualsReference.j1]
    rw [if_neg he]
theorem j2_bad (L R : List S137) : Ev (fun k => glossatorlaw4_TexteditTransformEqualsReference.j2 k [] [] 2 0 [] [] L R true) true := by
  refine Ev.stepK (f := fun k => (glossatorref4_EqualEdits.f k ([] : List S137) ([] : List S137)).bind fun t => if t = true then ((glossatorref4_EqualEdits.f k ([] : List S137) ([] : List S137)).bind fun u => if u = true then some ((2 : Int) == 2) else some false) else some false) (Ev.bind (eqE_ev [] (by simp)) (Ev.pos rfl (Ev.bind (eqE_ev [] (by simp)) (Ev.pos rfl ?_)))) (fun k => ?_)
  · exact Ev.now _
  · simp only [glossatorlaw4_TexteditTransformEqualsReference.j2]
    rw [if_pos trivial]
theorem j2_good (L R : List S137) (hL : L.length ≤ 50) (hR : R.length ≤ 50) : Ev (fun k => glossatorlaw4_TexteditTransformEqualsReference.j2 k L R 0 0 [] [] L R false) true := by
  refine Ev.stepK (f := fun k => (glossatorref4_EqualEdits.f k L L).bind fun t => if t = true then ((glossatorref4_EqualEdits.f k R R).bind fun u => if u = true then some ((0 : Int) == 0) else some false) else some false) (Ev.bind (eqE_ev L (by omega)) (Ev.pos rfl (Ev.bind (eqE_ev R (by omega)) (Ev.pos rfl ?_)))) (fun k => ?_)
  · exact Ev.now _
  · simp only [glossatorlaw4_TexteditTransformEqualsReference.j2]
    rw [if_neg (by simp)]
theorem j0_step {S : ByteArray} {a b : List S137} (h : Ev (fun k => (textedit_Transform.f k S a b).bind fun bt222 => ((glossatorref4_ValidateEdits.f k S a).bind fun t229 => (if t229 = 0 then ((glossatorref4_ValidateEdits.f k S b).bind fun t230 => (glossatorlaw4_TexteditTransformEqualsReference.j1 k S a b bt222.1 bt222.2.1 bt222.2.2 t230)) else (glossatorlaw4_TexteditTransformEqualsReference.j1 k S a b bt222.1 bt222.2.1 bt222.2.2 t229)))) true) : Ev (fun k => glossatorlaw4_TexteditTransformEqualsReference.j0 k S a b) true := Ev.stepK h (fun k => by simp only [glossatorlaw4_TexteditTransformEqualsReference.j0])
theorem j1_step {S : ByteArray} {a b x7 x8 : List S137} {x9 : Int} (h : Ev (fun k => (glossatorref4_MergeEdits.f k S a b false).bind fun t231 => ((glossatorref4_MergeEdits.f k S a b true).bind fun t234 => ((glossatorref4_ApplyEdits.f k S b).bind fun t237 => ((glossatorref4_CanonicalEdits.f k (t237.size : Int) t231).bind fun bt238 => ((glossatorref4_ApplyEdits.f k S a).bind fun t242 => ((glossatorref4_CanonicalEdits.f k (t242.size : Int) t234).bind fun bt243 => (if (t234.length : Int) > 2000 then (glossatorlaw4_TexteditTransformEqualsReference.j2 k x7 x8 x9 0 ([] : List (S137)) ([] : List (S137)) bt238.1 bt243.1 true) else (if bt238.2 = true then (glossatorlaw4_TexteditTransformEqualsReference.j2 k x7 x8 x9 0 ([] : List (S137)) ([] : List (S137)) bt238.1 bt243.1 (!bt243.2)) else (glossatorlaw4_TexteditTransformEqualsReference.j2 k x7 x8 x9 0 ([] : List (S137)) ([] : List (S137)) bt238.1 bt243.1 true))))))))) true) : Ev (fun k => glossatorlaw4_TexteditTransformEqualsReference.j1 k S a b x7 x8 x9 0) true := Ev.stepK h (fun k => by simp only [glossatorlaw4_TexteditTransformEqualsReference.j1]; rw [if_pos trivial])
theorem canR_B (n : Int) (bs : List S200) : ((canB (canL n bs 0 [])).2 = true → canR n bs = ((canB (canL n bs 0 [])).1, 0) ∧ (canB (canL n bs 0 [])).1.length ≤ 50) ∧ ((canB (canL n bs 0 [])).2 = false → canR n bs = ([], 2)) := by
  unfold canR canB
  split
  · exact ⟨fun h => by simp at h, fun _ => rfl⟩
  · refine ⟨fun _ => ⟨rfl, ?_⟩, fun h => by simp at h⟩
    show (canL n bs 0 []).length ≤ 50; omega
theorem new_size {sz : Int} (hsz : sz ≤ 300) : ∀ (t : List S137) (p n : Int), vP sz t p n = 0 → 0 ≤ n → n ≤ 4000 → p ≤ sz → 0 ≤ sz → -1 ≤ p → sz - p ≤ n + 1 → ∀ e ∈ t, e.f2.size ≤ 5000 := by
  intro t
  induction t with
  | nil => intro p n _ _ _ _ _ _ _ e he; cases he
  | cons a t ih =>
    intro p n h h1 h2 h3 h4 h5 h6 e he
    rw [vP] at h
    split at h
    · cases h
    · split at h
      · cases h
      · split at h
        · cases h
        · have hle := vP_le _ _ _ _ h (by omega)
          rcases List.mem_cons.1 he with rfl | he
          · omega
          · exact ih _ _ h (by omega) (by omega) (by omega) h4 (by omega) (by omega) e he
theorem j0_ev (S : ByteArray) (a b : List S137) (hS : S.size ≤ 300 ∨ 2000 < S.size) (ha : ∀ e ∈ a, e.f2.size ≤ 140737488351232) (hb : ∀ e ∈ b, e.f2.size ≤ 140737488351232) : Ev (fun k => glossatorlaw4_TexteditTransformEqualsReference.j0 k S a b) true := by
  have hA := apply_ev S a ha
  have hW := validateEdits_ev S a ha
  have hA2 := apply_ev S b hb
  have hW2 := validateEdits_ev S b hb
  by_cases c : valP S a = 0
  · obtain ⟨h1, h2, h3⟩ := val_zero c
    have hv := vd_of _ _ _ _ h3
    rw [c, if_pos rfl] at hA
    rw [c] at hW
    by_cases d : valP S b = 0
    · obtain ⟨g1, g2, g3⟩ := val_zero d
      have hv2 := vd_of _ _ _ _ g3
      rw [d, if_pos rfl] at hA2
      rw [d] at hW2
      have hRA := applyEdits_ev h1 h2 ha hv
      have hRB := applyEdits_ev g1 g2 hb hv2
      have hS3 : S.size ≤ 300 := by omega
      have az := new_size (by omega) _ _ _ h3 (by omega) (by omega) (by omega) (by omega) (by omega) (by omega)
      have bz := new_size (by omega) _ _ _ g3 (by omega) (by omega) (by omega) (by omega) (by omega) (by omega)
      obtain ⟨v1, t1, r1, y1, n1, z1, s1⟩ := tr_all (trS S) (trS_bytes S) c
      obtain ⟨v2, t2, r2, y2, n2, z2, s2⟩ := tr_all (trS S) (trS_bytes S) d
      obtain ⟨s', k1, k2, k3⟩ := runT_ok (S := S) (L := a) (R := b) h1 az bz (trS S) 0 ⟨a, b, 0, 0, [], []⟩ rfl (by omega) (Cur.start hv) (Cur.start hv2) (by simp only []; omega) (by simp only []; omega) (by simp only []; omega) (by simp only []; omega) (by simp) (by simp)
      simp only [List.nil_append] at k2 k3
      have m1 := merge_ev S a b true (by omega) (by omega) h1 az bz
      have m2 := merge_ev S a b false (by omega) (by omega) h1 az bz
      rw [← k2] at m1
      rw [← k3] at m2
      have l1 := mgA_length (fl := true) az bz (trS S) 0 0
      have l2 := mgA_length (fl := false) az bz (trS S) 0 0
      rw [← k2] at l1
      rw [← k3] at l2
      rw [trS_length] at l1 l2
      have e1 : ∀ x ∈ s'.lm, x.f1 = -1 ∨ 0 ≤ x.f1 ∧ x.f1 < (apS S a).size := by
        intro x hx
        rw [k2] at hx
        have := mgA_mem (trS S) 0 0 (by omega) x hx
        rw [show own true a b = a from rfl, r1, n1] at this
        omega
      have e2 : ∀ x ∈ s'.rm, x.f1 = -1 ∨ 0 ≤ x.f1 ∧ x.f1 < (apS S b).size := by
        intro x hx
        rw [k3] at hx
        have := mgA_mem (trS S) 0 0 (by omega) x hx
        rw [show own false a b = b from rfl, r2, n2] at this
        omega
      have c1 := canonical_ok (n := (apS S a).size) (bs := s'.lm) (by omega) (by omega) (fun x hx => by have := e1 x hx; omega) (by omega)
      have c2 := canonical_ok (n := (apS S b).size) (bs := s'.rm) (by omega) (by omega) (fun x hx => by have := e2 x hx; omega) (by omega)
      have f1 := canonical_ev (n := (apS S a).size) (bs := s'.lm) (by omega) (by omega) (by omega) e1
      have f2 := canonical_ev (n := (apS S b).size) (bs := s'.rm) (by omega) (by omega) (by omega) e2
      have hT : Ev (fun k => textedit_Transform.f k S a b) (if (s'.lm.length : Int) > 2000 then ([], [], 2) else if (canR (apS S b).size s'.rm).2 = 0 then (if (canR (apS S a).size s'.lm).2 = 0 then ((canR (apS S b).size s'.rm).1, (canR (apS S a).size s'.lm).1, 0) else ([], [], (canR (apS S a).size s'.lm).2)) else ([], [], (canR (apS S b).size s'.rm).2)) := by
        unfold textedit_Transform.f
        refine Ev.bind hA (Ev.pos rfl (Ev.bind hA2 (Ev.pos rfl ?_)))
        rw [if_pos (by omega)]
        have k1' : QTexteditTransformEqualsReference.runT S S.size ⟨a, b, 0, 0, [], []⟩ = some s' := by rw [← trS_length S]; exact k1
        rw [k1', Option.bind_some]
        by_cases q : (s'.lm.length : Int) > 2000
        · rw [if_pos q, if_pos q]; exact Ev.now _
        · rw [if_neg q, if_neg q, c2, Option.bind_some]
          by_cases q2 : (canR (apS S b).size s'.rm).2 = 0
          · rw [if_pos q2, if_pos q2, c1, Option.bind_some]
            split <;> exact Ev.now _
          · rw [if_neg q2, if_neg q2]; exact Ev.now _
      refine j0_step (Ev.bind hT (Ev.bind hW (Ev.pos rfl (Ev.bind hW2 ?_))))
      obtain ⟨X, hX⟩ : ∃ X, (if (s'.lm.length : Int) > 2000 then (([] : List S137), ([] : List S137), (2 : Int)) else if (canR (apS S b).size s'.rm).2 = 0 then (if (canR (apS S a).size s'.lm).2 = 0 then ((canR (apS S b).size s'.rm).1, (canR (apS S a).size s'.lm).1, 0) else ([], [], (canR (apS S a).size s'.lm).2)) else ([], [], (canR (apS S b).size s'.rm).2)) = X := ⟨_, rfl⟩
      rw [hX]
      have hlen : ((s'.lm.map cc).length : Int) = s'.lm.length := by rw [List.length_map]
      have p1 := canR_B (apS S a).size s'.lm
      have p2 := canR_B (apS S b).size s'.rm
      refine j1_step (Ev.bind m2 (Ev.bind m1 (Ev.bind hRB (Ev.bind f2 (Ev.bind hRA (Ev.bind f1 ?_))))))
      by_cases q : (s'.lm.length : Int) > 2000
      · rw [if_pos q] at hX
        refine Ev.pos (by rw [hlen]; exact q) ?_
        rw [← hX]
        exact j2_bad _ _
      · rw [if_neg q] at hX
        refine Ev.neg (by rw [hlen]; exact q) ?_
        cases w2 : (canB (canL (apS S b).size s'.rm 0 [])).2 with
        | false =>
          rw [p2.2 w2, if_neg (by simp)] at hX
          refine Ev.neg (by simp) ?_
          rw [← hX]
          exact j2_bad _ _
        | true =>
          obtain ⟨u1, u2⟩ := p2.1 w2
          rw [u1, if_pos rfl] at hX
          refine Ev.pos rfl ?_
          cases w1 : (canB (canL (apS S a).size s'.lm 0 [])).2 with
          | false =>
            rw [p1.2 w1, if_neg (by simp)] at hX
            rw [← hX]
            exact j2_bad _ _
          | true =>
            obtain ⟨u3, u4⟩ := p1.1 w1
            rw [u3, if_pos rfl] at hX
            rw [← hX]
            exact j2_good _ _ u2 u4
    · rw [if_neg d] at hA2
      have hT : Ev (fun k => textedit_Transform.f k S a b) ([], [], valP S b) := by
        unfold textedit_Transform.f
        exact Ev.bind hA (Ev.pos rfl (Ev.bind hA2 (Ev.neg d (Ev.now _))))
      exact j0_step (Ev.bind hT (Ev.bind hW (Ev.pos rfl (Ev.bind hW2 (j1_bad S a b _ d)))))
  · rw [if_neg c] at hA
    have hT : Ev (fun k => textedit_Transform.f k S a b) ([], [], valP S a) := by
      unfold textedit_Transform.f
      exact Ev.bind hA (Ev.neg c (Ev.now _))
    exact j0_step (Ev.bind hT (Ev.bind hW (Ev.neg c (j1_bad S a b _ c))))
theorem law_ev (src : ByteArray) (a b : List S137) (ha : ∀ e ∈ a, e.f2.size ≤ 140737488351232) (hb : ∀ e ∈ b, e.f2.size ≤ 140737488351232) : Ev (fun k => glossatorlaw4_TexteditTransformEqualsReference.f k src a b) true := by
  unfold glossatorlaw4_TexteditTransformEqualsReference.f
  refine Ev.bind example_ev (Ev.pos rfl ?_)
  by_cases c : (src.size : Int) ≤ 2000
  · have hm : mn (src.size : Int) 300 = ((min src.size 300 : Nat) : Int) := by unfold mn; split <;> omega
    refine Ev.pos c ?_
    rw [hm]
    refine Ev.pos (by omega) (Ev.pos (by omega) ?_)
    rw [Int.toNat_natCast]
    exact j0_ev _ a b (.inl (by rw [ext_size]; omega)) ha hb
  · exact Ev.neg c (j0_ev _ a b (.inr (by omega)) ha hb)
end Go.Proofs.Ytbfedkmiekbcmaa.PrTexteditTransformEqualsReference
namespace Go.Proofs.Ytbfedkmiekbcmaa.Pr
open Go.RowKit Go.Proofs.YtbfedkmiekbcmaaW.PrintWords Go.Proofs.YtbfedkmiekbcmaaW.PrintLast Go.Proofs.YtbfedkmiekbcmaaW.PrintMore Go.Proofs.Ytbfedkmiekbcmaa.QTexteditTransformEqualsReference Go.Proofs.Ytbfedkmiekbcmaa.Aid
theorem TexteditTransformEqualsReference : glossatorlaw4_TexteditTransformEqualsReference.PureR := by
  intro src a b _ ha hb
  exact (Go.Proofs.Ytbfedkmiekbcmaa.PrTexteditTransformEqualsReference.law_ev src a b (fun e he => (ha.2 e he).2.2) (fun e he => (hb.2 e he).2.2)).rounds
end Go.Proofs.Ytbfedkmiekbcmaa.Pr
