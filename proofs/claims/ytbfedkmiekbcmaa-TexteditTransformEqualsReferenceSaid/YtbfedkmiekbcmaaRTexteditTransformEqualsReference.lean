/- The law TexteditTransformEqualsReference answers true at every input, and its arguments read behind the call as before: the given statement TexteditTransformEqualsReferenceSaid. Conditions: none. (Written by gen.py, this repo's wip/: the row, out of the pure statement and the walk.) -/
import Derived.Test.YtbfedkmiekbcmaaRows
import Derived.Test.YtbfedkmiekbcmaaPrTexteditTransformEqualsReference
import Derived.WalkKit
import Derived.ProofKit
import Derived.OpenShut
import Derived.ShutString
import Derived.ChangeOld
import Derived.Below
import Derived.SizedLaws
import Derived.Carry
namespace Go.Proofs.Ytbfedkmiekbcmaa.texteditTransformEqualsReference
open Go.ChangeShapes Go.WideShapes Go.ChangeAt Go.RowKit Go.Proofs.Ytbfedkmiekbcmaa.Door Go.Proofs.Ytbfedkmiekbcmaa.QTexteditTransformEqualsReference Go.Proofs.YtbfedkmiekbcmaaW.PrintWords
open Go.ChangeMaps (open_string shut_string)
set_option linter.unusedVariables false
set_option linter.unusedSimpArgs false
theorem own : ownKnob Try.prog.godebug = none := by kernel_rfl
theorem laidOut : laidOutB Try.prog = true := by kernel_rfl
set_option maxRecDepth 100000 in
set_option maxHeartbeats 1000000 in
theorem lifted (os : Os) (started : os.Started) (H : Type) (enc : TypeId × Value → H) :
    ReturnsInHanded {} Try.checked os 13 .any (Rows.texteditTransformEqualsReferenceSpec.pre6 enc Try.prog Try.f13 Rows.texteditTransformEqualsReferenceRow.domain false) (Rows.texteditTransformEqualsReferenceSpec.post enc Try.prog Try.f13 false true false false) := by
  refine returnsInHanded_of_change_sized (C := Try.checked) own started (by kernel_rfl) Try.func13
    (ChangeSpec.witness6 (enc := enc) (C := Try.checked) false ⟨#[], #[.string ByteArray.empty, .slice none 0 0, .slice none 0 0], []⟩ 8 (by kernel_rfl) (by kernel_rfl) (by kernel_rfl) (by kernel_rfl)) ?_
  intro W base args ds gs before hval0 hW hcnd hsz0 _
  have hsz : (DataW.weightsEach Try.prog (Try.f13.params.toList ++ Rows.texteditTransformEqualsReferenceSpec.plain.varTypes Try.prog) (ds ++ gs)).all (· ≤ reachBytes) = true := hsz0
  have hval : ∀ (j : Nat) t v, Try.f13.params[j]? = some t → args[j]? = some v → Value.okWide Try.prog W .any base t v := hval0
  have hW' := hW
  obtain ⟨p, q, hA0, hV, rfl, hfz, hnd⟩ := hW
  have hA : DataW.TrodAll enc Try.prog W 0 (fun _ => true) true Try.f13.params.toList args.toList ds p := hA0
  rw [Try.params13] at hA hval hsz
  have hKeep := hA
  obtain ⟨v0, vs0, d0, ds0, p0, q0, hargs, rfl, rfl, h0, r0⟩ := trodAll_cons hA
  obtain ⟨v1, vs1, d1, ds1, p1, q1, rfl, rfl, rfl, h1, r1⟩ := trodAll_cons r0
  obtain ⟨v2, vs2, d2, ds2, p2, q2, rfl, rfl, rfl, h2, r2⟩ := trodAll_cons r1
  obtain ⟨rfl, rfl, rfl⟩ := trodAll_nil r2
  obtain rfl : args = #[v0, v1, v2] := by cases args; simp_all
  obtain ⟨rfl, rfl⟩ := trodVars_none hV
  obtain ⟨a0, rfl, rfl, rfl, y0⟩ := open_string Try.underlying9 (hval 0 9 v0 rfl rfl) h0
  have w0 : a0.size ≤ 140737488351232 := by
    have z := sized_string hsz (j := 0) (t := 9) rfl rfl
    rw [Array.length_toList] at z
    exact z
  obtain ⟨A1, c1, a1, rfl, hc1, hr1, w1⟩ := top_slice Try.underlying57 (opens_slice Try.underlying57 (by kernel_rfl) (by kernel_rfl) opens137) (hval 1 57 v1 rfl rfl) h1 (weights_of hsz (j := 1) rfl rfl)
  obtain ⟨A2, c2, a2, rfl, hc2, hr2, w2⟩ := top_slice Try.underlying57 (opens_slice Try.underlying57 (by kernel_rfl) (by kernel_rfl) opens137) (hval 2 57 v2 rfl rfl) h2 (weights_of hsz (j := 2) rfl rfl)
  obtain ⟨k, h⟩ := Pr.TexteditTransformEqualsReference a0 a1 a2 w0 w1 w2
  clear hA0 hval0 hsz0 hsz
  refine (glossatorlaw4_TexteditTransformEqualsReference.calls k _ _ _ _ _ _ _ true W hr1 hc1 hr2 hc2 h).mono fun e W' ⟨he, bel⟩ => ?_
  subst he
  exact ⟨_, rfl, _, _, _, [], _, [], hW', trodAll_mk1 (shut_bool Try.underlying4 _), trodAll_behind laidOut (by intro t ht; have ht2 : t ∈ [9, 57, 57] := ht; clear ht; revert t; simp only [List.mem_cons, List.not_mem_nil, or_false, forall_eq_or_imp, forall_eq]; exact ⟨⟨by kernel_rfl, of_decide_eq_true (by kernel_rfl)⟩, ⟨by kernel_rfl, of_decide_eq_true (by kernel_rfl)⟩, ⟨by kernel_rfl, of_decide_eq_true (by kernel_rfl)⟩⟩) hKeep bel, rfl, bel.frame _, fun h => by cases h⟩
theorem over : Rows.texteditTransformEqualsReferenceRow.holds Try.pinned (OpenSpec.ofChange Rows.texteditTransformEqualsReferenceSpec) :=
  OpenClaim.holds_of_wide 13 Try.f13 rfl rfl rfl rfl rfl rfl rfl ⟨rfl, rfl, rfl, rfl, rfl⟩ rfl rfl rfl rfl rfl (by kernel_rfl) Try.func13 (by kernel_rfl)
    (of_decide_eq_true (by kernel_rfl)) (by unfold Func.isWrapper; first | (rw [if_pos (by decide +kernel)]; kernel_rfl) | (rw [if_neg (by decide +kernel)]; exact ⟨rfl, rfl⟩))
    (fun os started H enc _ => lifted os started H enc)
theorem proved : Rows.TexteditTransformEqualsReferenceSaid := over
#print axioms proved
end Go.Proofs.Ytbfedkmiekbcmaa.texteditTransformEqualsReference
namespace Go.Proofs.Ytbfedkmiekbcmaa
/-- The row, under a short name, for the claim. -/
theorem texteditTransformEqualsReference_holds : Rows.TexteditTransformEqualsReferenceSaid := texteditTransformEqualsReference.proved
end Go.Proofs.Ytbfedkmiekbcmaa
