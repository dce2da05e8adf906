/-
  The pure statement of TexteditApplyEqualsReference.
-/
import Derived.Test.YtbfedkmiekbcmaaApTexteditApplyEqualsReference
namespace Go.Proofs.Ytbfedkmiekbcmaa.PrTexteditApplyEqualsReference
open Go.RowKit Go.Proofs.YtbfedkmiekbcmaaW.PrintWords Go.Proofs.YtbfedkmiekbcmaaW.PrintLast Go.Proofs.YtbfedkmiekbcmaaW.PrintMore Go.Proofs.Ytbfedkmiekbcmaa.QTexteditApplyEqualsReference Go.Proofs.Ytbfedkmiekbcmaa.Aid
set_option linter.unusedSimpArgs false
set_option linter.unusedVariables false
theorem eqE0 (ks : List S137) (hl : ks.length ≤ 1000) : ∀ (d i : Nat), i + d = ks.length → Ev (fun k => glossatorref4_EqualEdits.l0 k ks ks (i : Int)) true := by
  intro d
  induction d with
  | zero =>
    intro i hi
    refine Ev.some' (fun k => ?_)
    simp only [glossatorref4_EqualEdits.l0]
    rw [if_neg (by omega)]
  | succ d ih =>
    intro i hi
    refine Ev.stepK (ih (i + 1) (by omega)) (fun k => ?_)
    simp only [glossatorref4_EqualEdits.l0]
    rw [if_pos (by omega), if_pos (by omega), if_pos (by omega), if_neg (by simp), wrap_id (n := (i : Int) + 1) (by omega) (by omega)]
    rfl
theorem eqE_ev (ks : List S137) (hl : ks.length ≤ 1000) : Ev (fun k => glossatorref4_EqualEdits.f k ks ks) true := by
  unfold glossatorref4_EqualEdits.f
  exact Ev.pos rfl (eqE0 ks hl ks.length 0 (by omega))
theorem invL_length (src : ByteArray) : ∀ (t : List S137) (sh : Int), (invL src sh t).length = t.length := by
  intro t
  induction t with
  | nil => intro sh; rfl
  | cons e t ih => intro sh; rw [invL, List.length_cons, List.length_cons, ih]
theorem nil_list : (⟨#[]⟩ : ByteArray).toList = [] := by first | decide +kernel | (unfold ByteArray.toList ByteArray.toList.loop; rfl)
theorem law_ev (src : ByteArray) (l : List S137) (hi : ∀ e ∈ l, e.f2.size ≤ 140737488351232) : Ev (fun k => glossatorlaw4_TexteditApplyEqualsReference.f k src l) true := by
  have hV := validate_ev src l hi
  have hW := validateEdits_ev src l hi
  unfold glossatorlaw4_TexteditApplyEqualsReference.f
  refine Ev.bind example_ev (Ev.pos rfl ?_)
  by_cases c : valP src l = 0
  · have hc : src.size ≤ 2000 ∧ l.length ≤ 50 ∧ vP src.size l (-1) src.size = 0 := by
      unfold valP at c
      split at c
      · cases c
      · next h => exact ⟨by omega, by omega, c⟩
    obtain ⟨h1, h2, h3⟩ := hc
    have hv := vd_of _ _ _ _ h3
    rw [c] at hV hW
    have hA0 : applyP src l 0 [] = some ⟨(ap src.data.toList l 0).toArray⟩ := by
      have := applyP_ok src h1 l (-1) 0 [] (by omega) (by omega) (by omega) (by omega) (fun e _ h => by omega) (by simpa using h3) (by simp)
      simpa using this
    have hA : Ev (fun k => textedit_Apply.f k src l) (⟨(ap src.data.toList l 0).toArray⟩, 0) := by
      unfold textedit_Apply.f
      refine Ev.bind hV (Ev.pos rfl ?_)
      rw [hA0]
      exact Ev.now _
    have hI : Ev (fun k => textedit_Invert.f k src l) (invL src 0 l, 0) := by
      unfold textedit_Invert.f
      refine Ev.bind hV (Ev.pos rfl ?_)
      have := invert_ev h1 h2 hi hv l 0 [] 0 rfl rfl (by omega) (by omega)
      rw [List.nil_append] at this
      exact this
    have hRA := applyEdits_ev h1 h2 hi hv
    have hRI : Ev (fun k => glossatorref4_InvertEdits.f k src l) (invL src 0 l) := by
      unfold glossatorref4_InvertEdits.f
      have := invertRef_ev h1 h2 hi hv l 0 [] rfl rfl (by rw [List.take_zero, shP]; omega) (by rw [List.take_zero, shP]; omega)
      rw [List.nil_append, List.take_zero, shP] at this
      exact this
    refine Ev.bind hA (Ev.bind hI (Ev.bind hW (Ev.pos rfl (Ev.bind hRA (Ev.bind hRI (Ev.bind hV (Ev.pos rfl (Ev.pos rfl (Ev.pos rfl (Ev.bind (eqE_ev _ (by rw [invL_length]; omega)) (Ev.pos rfl ?_)))))))))))
    exact Ev.now _
  · have hA : Ev (fun k => textedit_Apply.f k src l) (⟨#[]⟩, valP src l) := by
      unfold textedit_Apply.f
      exact Ev.bind hV (Ev.neg c (Ev.now _))
    have hI : Ev (fun k => textedit_Invert.f k src l) ([], valP src l) := by
      unfold textedit_Invert.f
      exact Ev.bind hV (Ev.neg c (Ev.now _))
    refine Ev.bind hA (Ev.bind hI (Ev.bind hW (Ev.neg c (Ev.bind hV (Ev.pos rfl (Ev.pos nil_list (Ev.pos rfl (Ev.bind (eqE_ev [] (by simp)) (Ev.pos rfl ?_)))))))))
    rw [beq_self_eq_true]
    exact Ev.now _
end Go.Proofs.Ytbfedkmiekbcmaa.PrTexteditApplyEqualsReference
namespace Go.Proofs.Ytbfedkmiekbcmaa.Pr
open Go.RowKit Go.Proofs.YtbfedkmiekbcmaaW.PrintWords Go.Proofs.YtbfedkmiekbcmaaW.PrintLast Go.Proofs.YtbfedkmiekbcmaaW.PrintMore Go.Proofs.Ytbfedkmiekbcmaa.QTexteditApplyEqualsReference Go.Proofs.Ytbfedkmiekbcmaa.Aid
theorem TexteditApplyEqualsReference : glossatorlaw4_TexteditApplyEqualsReference.PureR := by
  intro src l _ hl
  exact (Go.Proofs.Ytbfedkmiekbcmaa.PrTexteditApplyEqualsReference.law_ev src l (fun e he => (hl.2 e he).2.2)).rounds
end Go.Proofs.Ytbfedkmiekbcmaa.Pr
