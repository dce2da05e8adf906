/- The law QuerylangCheck answers true at every input, and its arguments read behind the call as before: the given statement QuerylangCheckSaid. Conditions: none. (Written by gen.py, this repo's wip/: the row, out of the pure statement and the walk.) -/
import Derived.Test.YtbfedkmiekbcmaaRows
import Derived.Test.YtbfedkmiekbcmaaPrQuerylangCheck
import Derived.WalkKit
import Derived.ProofKit
import Derived.OpenShut
import Derived.ShutString
import Derived.ChangeOld
import Derived.Below
import Derived.SizedLaws
import Derived.Carry
namespace Go.Proofs.Ytbfedkmiekbcmaa.querylangCheck
open Go.ChangeShapes Go.WideShapes Go.ChangeAt Go.RowKit Go.Proofs.Ytbfedkmiekbcmaa.Door Go.Proofs.Ytbfedkmiekbcmaa.QQuerylangCheck Go.Proofs.YtbfedkmiekbcmaaW.PrintWords
open Go.ChangeMaps (open_string shut_string)
set_option linter.unusedVariables false
set_option linter.unusedSimpArgs false
theorem own : ownKnob Try.prog.godebug = none := by kernel_rfl
theorem laidOut : laidOutB Try.prog = true := by kernel_rfl
set_option maxRecDepth 100000 in
set_option maxHeartbeats 1000000 in
theorem lifted (os : Os) (started : os.Started) (H : Type) (enc : TypeId × Value → H) :
    ReturnsInHanded {} Try.checked os 9 .any (Rows.querylangCheckSpec.pre6 enc Try.prog Try.f9 Rows.querylangCheckRow.domain false) (Rows.querylangCheckSpec.post enc Try.prog Try.f9 false true false false) := by
  refine returnsInHanded_of_change_sized (C := Try.checked) own started (by kernel_rfl) Try.func9
    (ChangeSpec.witness6 (enc := enc) (C := Try.checked) false ⟨#[], #[.agg #[.int .i64 0, .slice none 0 0]], []⟩ 8 (by kernel_rfl) (by kernel_rfl) (by kernel_rfl) (by kernel_rfl)) ?_
  intro W base args ds gs before hval0 hW hcnd hsz0 _
  have hsz : (DataW.weightsEach Try.prog (Try.f9.params.toList ++ Rows.querylangCheckSpec.plain.varTypes Try.prog) (ds ++ gs)).all (· ≤ reachBytes) = true := hsz0
  have hval : ∀ (j : Nat) t v, Try.f9.params[j]? = some t → args[j]? = some v → Value.okWide Try.prog W .any base t v := hval0
  have hW' := hW
  obtain ⟨p, q, hA0, hV, rfl, hfz, hnd⟩ := hW
  have hA : DataW.TrodAll enc Try.prog W 0 (fun _ => true) true Try.f9.params.toList args.toList ds p := hA0
  rw [Try.params9] at hA hval hsz
  have hKeep := hA
  obtain ⟨v0, vs0, d0, ds0, p0, q0, hargs, rfl, rfl, h0, r0⟩ := trodAll_cons hA
  obtain ⟨rfl, rfl, rfl⟩ := trodAll_nil r0
  obtain rfl : args = #[v0] := by cases args; simp_all
  obtain ⟨rfl, rfl⟩ := trodVars_none hV
  obtain ⟨a0, cs0, rfl, hk0, w0⟩ := top_struct Try.underlying97 opens97 (hval 0 97 v0 rfl rfl) h0 (weights_of hsz (j := 0) rfl rfl)
  obtain ⟨l0, e0, hk0'⟩ : ∃ l : List Value, cs0.toList = l ∧ k97.K W a0 l := ⟨_, rfl, hk0⟩
  clear hk0
  obtain ⟨_, _, rfl, rfl, ⟨A0_1, c0_1, rfl, hc0_1, hr0_1⟩⟩ := hk0'
  obtain rfl : cs0 = #[.int .i64 (a0.f0), .slice A0_1 (a0.f1).length c0_1] := by apply Array.toList_inj.1; rw [e0]; rfl
  obtain ⟨k, h⟩ := Pr.QuerylangCheck a0 w0
  clear hA0 hval0 hsz0 hsz
  refine (glossatorlaw3_QuerylangCheck.calls k _ _ _ _ true W hr0_1 hc0_1 h).mono fun e W' ⟨he, bel⟩ => ?_
  subst he
  exact ⟨_, rfl, _, _, _, [], _, [], hW', trodAll_mk1 (shut_bool Try.underlying4 _), trodAll_behind laidOut (by intro t ht; have ht2 : t ∈ [97] := ht; clear ht; revert t; simp only [List.mem_cons, List.not_mem_nil, or_false, forall_eq_or_imp, forall_eq]; exact ⟨by kernel_rfl, of_decide_eq_true (by kernel_rfl)⟩) hKeep bel, rfl, bel.frame _, fun h => by cases h⟩
theorem over : Rows.querylangCheckRow.holds Try.pinned (OpenSpec.ofChange Rows.querylangCheckSpec) :=
  OpenClaim.holds_of_wide 9 Try.f9 rfl rfl rfl rfl rfl rfl rfl ⟨rfl, rfl, rfl, rfl, rfl⟩ rfl rfl rfl rfl rfl (by kernel_rfl) Try.func9 (by kernel_rfl)
    (of_decide_eq_true (by kernel_rfl)) (by unfold Func.isWrapper; first | (rw [if_pos (by decide +kernel)]; kernel_rfl) | (rw [if_neg (by decide +kernel)]; exact ⟨rfl, rfl⟩))
    (fun os started H enc _ => lifted os started H enc)
theorem proved : Rows.QuerylangCheckSaid := over
#print axioms proved
end Go.Proofs.Ytbfedkmiekbcmaa.querylangCheck
namespace Go.Proofs.Ytbfedkmiekbcmaa
/-- The row, under a short name, for the claim. -/
theorem querylangCheck_holds : Rows.QuerylangCheckSaid := querylangCheck.proved
end Go.Proofs.Ytbfedkmiekbcmaa
