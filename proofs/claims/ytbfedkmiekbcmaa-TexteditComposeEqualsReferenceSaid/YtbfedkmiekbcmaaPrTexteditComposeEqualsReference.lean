/-
  The pure statement of TexteditComposeEqualsReference.
-/
import Derived.Test.YtbfedkmiekbcmaaBoTexteditComposeEqualsReference
namespace Go.Proofs.Ytbfedkmiekbcmaa.PrTexteditComposeEqualsReference
open Go.RowKit Go.Proofs.YtbfedkmiekbcmaaW.PrintWords Go.Proofs.YtbfedkmiekbcmaaW.PrintLast Go.Proofs.YtbfedkmiekbcmaaW.PrintMore Go.Proofs.Ytbfedkmiekbcmaa.QTexteditComposeEqualsReference Go.Proofs.Ytbfedkmiekbcmaa.Aid
set_option linter.unusedSimpArgs false
set_option linter.unusedVariables false
theorem compose0 (S : ByteArray) (hs : S.size ≤ 2000) (a b : List S137) (R : List S137 × Bool)
    (hfin : Ev (fun k => (glossatorref4_applyToTrace.f k ((trS S).map cc) a).bind fun t => (glossatorref4_applyToTrace.f k t b).bind fun u => (glossatorref4_CanonicalEdits.f k (S.size : Int) u).bind fun c => some (c.1, c.2)) R) :
    ∀ (d i : Nat), i + d = S.size → Ev (fun k => glossatorref4_ComposeEdits.l0 k S a b (((trS S).take i).map cc) (i : Int)) R := by
  intro d
  induction d with
  | zero =>
    intro i hi
    refine Ev.stepK hfin (fun k => ?_)
    simp only [glossatorref4_ComposeEdits.l0]
    rw [if_neg (by omega), List.take_of_length_le (by rw [trS_length]; omega)]
  | succ d ih =>
    intro i hi
    refine Ev.stepK (ih (i + 1) (by omega)) (fun k => ?_)
    simp only [glossatorref4_ComposeEdits.l0]
    rw [if_pos (by omega), if_pos (by omega), if_pos (by rw [List.length_map, List.length_take, trS_length]; omega), trS_take S (by omega), List.map_append, wrap_id (n := (i : Int) + 1) (by omega) (by omega)]
    rfl
theorem canR_B (n : Int) (bs : List S200) : (canR n bs).1 = (canB (canL n bs 0 [])).1 ∧ (canR n bs).2 = (if (canB (canL n bs 0 [])).2 = true then 0 else 2) ∧ (canR n bs).1.length ≤ 50 := by
  unfold canR canB
  split
  · exact ⟨rfl, rfl, by simp⟩
  · exact ⟨rfl, rfl, by show (canL n bs 0 []).length ≤ 50; omega⟩
theorem bad_ev (S : ByteArray) (a b : List S137) (e : Int) (he : e ≠ 0) : Ev (fun k => glossatorlaw4_TexteditComposeEqualsReference.j1 k S a b [] e e) true := by
  refine Ev.stepK (f := fun k => (glossatorref4_EqualEdits.f k ([] : List S137) ([] : List S137)).bind fun t => if t = true then some (e == e) else some false) (Ev.bind (eqE_ev [] (by simp)) (Ev.pos rfl ?_)) (fun k => ?_)
  · rw [beq_self_eq_true]; exact Ev.now _
  · simp only [glossatorlaw4_TexteditComposeEqualsReference.j1]
    rw [if_neg he]
theorem j0_step {S : ByteArray} {a b : List S137} (h : Ev (fun k => (textedit_Compose.f k S a b).bind fun bt230 => ((glossatorref4_ValidateEdits.f k S a).bind fun t234 => (if t234 = 0 then ((glossatorref4_ApplyEdits.f k S a).bind fun t235 => ((glossatorref4_ValidateEdits.f k t235 b).bind fun t236 => (glossatorlaw4_TexteditComposeEqualsReference.j1 k S a b bt230.1 bt230.2 t236))) else (glossatorlaw4_TexteditComposeEqualsReference.j1 k S a b bt230.1 bt230.2 t234)))) true) : Ev (fun k => glossatorlaw4_TexteditComposeEqualsReference.j0 k S a b) true := Ev.stepK h (fun k => by simp only [glossatorlaw4_TexteditComposeEqualsReference.j0])
theorem j0_ev (S : ByteArray) (a b : List S137) (hS : S.size ≤ 300 ∨ 2000 < S.size) (ha : ∀ e ∈ a, e.f2.size ≤ 140737488351232) (hb : ∀ e ∈ b, e.f2.size ≤ 140737488351232) : Ev (fun k => glossatorlaw4_TexteditComposeEqualsReference.j0 k S a b) true := by
  have hA := apply_ev S a ha
  have hW := validateEdits_ev S a ha
  by_cases c : valP S a = 0
  · obtain ⟨h1, h2, h3⟩ := val_zero c
    have hv := vd_of _ _ _ _ h3
    rw [c, if_pos rfl] at hA
    rw [c] at hW
    have hRA := applyEdits_ev h1 h2 ha hv
    have hV2 := validate_ev (apS S a) b hb
    have hW2 := validateEdits_ev (apS S a) b hb
    by_cases d : valP (apS S a) b = 0
    · rw [d] at hV2 hW2
      obtain ⟨g1, g2, g3⟩ := val_zero d
      obtain ⟨v1, t1, r1, y1, n1, z1, s1⟩ := tr_all (trS S) (trS_bytes S) c
      obtain ⟨v2, t2, r2, y2, n2, z2, s2⟩ := tr_all (apT (trS S) a 0) y1 d
      obtain ⟨T1, hT1⟩ : ∃ T, apT (trS S) a 0 = T := ⟨_, rfl⟩
      obtain ⟨T2, hT2⟩ : ∃ T, apT T1 b 0 = T := ⟨_, rfl⟩
      have hmem : ∀ x ∈ T2, x.f1 = -1 ∨ 0 ≤ x.f1 ∧ x.f1 < S.size := by
        intro x hx
        rw [← hT2] at hx
        rcases apT_mem _ _ x hx with h | h
        · exact .inl h
        · rw [← hT1] at h
          rcases apT_mem _ _ x h with h | h
          · exact .inl h
          · exact .inr (trS_mem h)
      rw [hT1] at t1 r1 y1 n1 v2 t2 r2 y2 n2
      rw [hT2] at t2 r2 y2 n2
      have hcan := canonical_ok (n := S.size) (bs := T2) (by omega) (by omega) (fun x hx => by rcases hmem x hx with h | h; exact .inl h; exact .inr ⟨h.1, by omega⟩) (by omega)
      have hC : Ev (fun k => textedit_Compose.f k S a b) (canR S.size T2) := by
        unfold textedit_Compose.f
        refine Ev.bind hA (Ev.pos rfl (Ev.bind hV2 ?_))
        refine Ev.stepK (f := fun k => (textedit_trace.f k S).bind fun t118 => ((textedit_applyTraced.f t118 a).bind fun t121 => ((textedit_applyTraced.f t121 b).bind fun t124 => ((textedit_canonical.f (S.size : Int) t124).bind fun bt127 => (some (bt127.1, bt127.2)))))) (Ev.bind (trace_ev S h1) ?_) (fun k => ?_)
        · rw [t1, Option.bind_some, t2, Option.bind_some, hcan, Option.bind_some]
          exact Ev.now _
        · simp only [textedit_Compose.j0]
          rw [if_pos trivial]
      have hR : Ev (fun k => glossatorref4_ComposeEdits.f k S a b) (canB (canL S.size T2 0 [])) := by
        unfold glossatorref4_ComposeEdits.f
        refine compose0 S h1 a b _ ?_ S.size 0 (by omega)
        have e1 := toTrace_ev (trS S) a (by rw [trS_length]; omega) (by omega) (by rw [r1]; omega)
        have e2 := toTrace_ev T1 b (by omega) (by omega) (by rw [r2]; omega)
        rw [r1] at e1
        rw [r2] at e2
        refine Ev.bind e1 (Ev.bind e2 (Ev.bind (canonical_ev (by omega) (by omega) (by omega) hmem) ?_))
        exact Ev.now _
      obtain ⟨q1, q2, q3⟩ := canR_B S.size T2
      refine j0_step (Ev.bind hC (Ev.bind hW (Ev.pos rfl (Ev.bind hRA (Ev.bind hW2 ?_)))))
      · refine Ev.stepK (Ev.bind hR (f := fun k bt237 => if bt237.2 = true then ((glossatorref4_EqualEdits.f k (canR S.size T2).1 bt237.1).bind fun t241 => (if t241 = true then (some ((canR S.size T2).2 == 0)) else (some false))) else ((glossatorref4_EqualEdits.f k (canR S.size T2).1 bt237.1).bind fun t242 => (if t242 = true then (some ((canR S.size T2).2 == 2)) else (some false)))) ?_) (fun k => ?_)
        · rw [← q1]
          by_cases e : (canB (canL S.size T2 0 [])).2 = true
          · refine Ev.pos e (Ev.bind (eqE_ev _ (by omega)) (Ev.pos rfl ?_))
            rw [q2, if_pos e]
            exact Ev.now _
          · refine Ev.neg e (Ev.bind (eqE_ev _ (by omega)) (Ev.pos rfl ?_))
            rw [q2, if_neg e]
            exact Ev.now _
        · simp only [glossatorlaw4_TexteditComposeEqualsReference.j1]
          rw [if_pos trivial]
    · have hC : Ev (fun k => textedit_Compose.f k S a b) ([], valP (apS S a) b) := by
        unfold textedit_Compose.f
        refine Ev.bind hA (Ev.pos rfl (Ev.bind hV2 ?_))
        refine Ev.some' (fun k => ?_)
        simp only [textedit_Compose.j0]
        rw [if_neg d]
      exact j0_step (Ev.bind hC (Ev.bind hW (Ev.pos rfl (Ev.bind hRA (Ev.bind hW2 (bad_ev S a b _ d))))))
  · rw [if_neg c] at hA
    have hC : Ev (fun k => textedit_Compose.f k S a b) ([], valP S a) := by
      unfold textedit_Compose.f
      refine Ev.bind hA (Ev.neg c ?_)
      refine Ev.some' (fun k => ?_)
      simp only [textedit_Compose.j0]
      rw [if_neg c]
    exact j0_step (Ev.bind hC (Ev.bind hW (Ev.neg c (bad_ev S a b _ c))))
theorem law_ev (src : ByteArray) (a b : List S137) (ha : ∀ e ∈ a, e.f2.size ≤ 140737488351232) (hb : ∀ e ∈ b, e.f2.size ≤ 140737488351232) : Ev (fun k => glossatorlaw4_TexteditComposeEqualsReference.f k src a b) true := by
  unfold glossatorlaw4_TexteditComposeEqualsReference.f
  refine Ev.bind example_ev (Ev.pos rfl ?_)
  by_cases c : (src.size : Int) ≤ 2000
  · have hm : mn (src.size : Int) 300 = ((min src.size 300 : Nat) : Int) := by unfold mn; split <;> omega
    refine Ev.pos c ?_
    rw [hm]
    refine Ev.pos (by omega) (Ev.pos (by omega) ?_)
    rw [Int.toNat_natCast]
    exact j0_ev _ a b (.inl (by rw [ext_size]; omega)) ha hb
  · exact Ev.neg c (j0_ev _ a b (.inr (by omega)) ha hb)
end Go.Proofs.Ytbfedkmiekbcmaa.PrTexteditComposeEqualsReference
namespace Go.Proofs.Ytbfedkmiekbcmaa.Pr
open Go.RowKit Go.Proofs.YtbfedkmiekbcmaaW.PrintWords Go.Proofs.YtbfedkmiekbcmaaW.PrintLast Go.Proofs.YtbfedkmiekbcmaaW.PrintMore Go.Proofs.Ytbfedkmiekbcmaa.QTexteditComposeEqualsReference Go.Proofs.Ytbfedkmiekbcmaa.Aid
theorem TexteditComposeEqualsReference : glossatorlaw4_TexteditComposeEqualsReference.PureR := by
  intro src a b _ ha hb
  exact (Go.Proofs.Ytbfedkmiekbcmaa.PrTexteditComposeEqualsReference.law_ev src a b (fun e he => (ha.2 e he).2.2) (fun e he => (hb.2 e he).2.2)).rounds
end Go.Proofs.Ytbfedkmiekbcmaa.Pr
