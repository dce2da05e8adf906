/- The law DepgraphReduction answers true at every input, and its arguments read behind the call as before: the given statement DepgraphReductionSaid. Conditions: none. (Written by gen.py, this repo's wip/: the row, out of the pure statement and the walk.) -/
import Derived.Test.YtofonbfpjfabbaaRows
import Derived.Test.YtofonbfpjfabbaaPrDepgraphReduction
import Derived.WalkKit
import Derived.ProofKit
import Derived.OpenShut
import Derived.ShutString
import Derived.ChangeOld
import Derived.Below
import Derived.SizedLaws
import Derived.Carry
namespace Go.Proofs.Ytofonbfpjfabbaa.depgraphReduction
open Go.ChangeShapes Go.WideShapes Go.ChangeAt Go.RowKit Go.Proofs.Ytofonbfpjfabbaa.Door Go.Proofs.Ytofonbfpjfabbaa.QDepgraphReduction Go.Proofs.YtofonbfpjfabbaaW.PrintWords
open Go.ChangeMaps (open_string shut_string)
set_option linter.unusedVariables false
set_option linter.unusedSimpArgs false
theorem own : ownKnob Try.prog.godebug = none := by kernel_rfl
theorem laidOut : laidOutB Try.prog = true := by kernel_rfl
set_option maxRecDepth 100000 in
set_option maxHeartbeats 1000000 in
theorem lifted (os : Os) (started : os.Started) (H : Type) (enc : TypeId × Value → H) :
    ReturnsInHanded {} Try.checked os 6 .any (Rows.depgraphReductionSpec.pre6 enc Try.prog Try.f6 Rows.depgraphReductionRow.domain false) (Rows.depgraphReductionSpec.post enc Try.prog Try.f6 false true false false) := by
  refine returnsInHanded_of_change_sized (C := Try.checked) own started (by kernel_rfl) Try.func6
    (ChangeSpec.witness6 (enc := enc) (C := Try.checked) false ⟨#[], #[.slice none 0 0], []⟩ 8 (by kernel_rfl) (by kernel_rfl) (by kernel_rfl) (by kernel_rfl)) ?_
  intro W base args ds gs before hval0 hW hcnd hsz0 _
  have hsz : (DataW.weightsEach Try.prog (Try.f6.params.toList ++ Rows.depgraphReductionSpec.plain.varTypes Try.prog) (ds ++ gs)).all (· ≤ reachBytes) = true := hsz0
  have hval : ∀ (j : Nat) t v, Try.f6.params[j]? = some t → args[j]? = some v → Value.okWide Try.prog W .any base t v := hval0
  have hW' := hW
  obtain ⟨p, q, hA0, hV, rfl, hfz, hnd⟩ := hW
  have hA : DataW.TrodAll enc Try.prog W 0 (fun _ => true) true Try.f6.params.toList args.toList ds p := hA0
  rw [Try.params6] at hA hval hsz
  have hKeep := hA
  obtain ⟨v0, vs0, d0, ds0, p0, q0, hargs, rfl, rfl, h0, r0⟩ := trodAll_cons hA
  obtain ⟨rfl, rfl, rfl⟩ := trodAll_nil r0
  obtain rfl : args = #[v0] := by cases args; simp_all
  obtain ⟨rfl, rfl⟩ := trodVars_none hV
  obtain ⟨A0, c0, a0, rfl, hc0, hr0, w0⟩ := top_slice Try.underlying22 (opens_slice Try.underlying22 (by kernel_rfl) (by kernel_rfl) opens44) (hval 0 22 v0 rfl rfl) h0 (weights_of hsz (j := 0) rfl rfl)
  obtain ⟨k, h⟩ := Pr.DepgraphReduction a0 w0
  clear hA0 hval0 hsz0 hsz
  refine (glossatorlaw3_DepgraphReduction.calls k _ _ _ true W hr0 hc0 h).mono fun e W' ⟨he, bel⟩ => ?_
  subst he
  exact ⟨_, rfl, _, _, _, [], _, [], hW', trodAll_mk1 (shut_bool Try.underlying4 _), trodAll_behind laidOut (by intro t ht; have ht2 : t ∈ [22] := ht; clear ht; revert t; simp only [List.mem_cons, List.not_mem_nil, or_false, forall_eq_or_imp, forall_eq]; exact ⟨by kernel_rfl, of_decide_eq_true (by kernel_rfl)⟩) hKeep bel, rfl, bel.frame _, fun h => by cases h⟩
set_option maxRecDepth 100000 in
set_option maxHeartbeats 40000000 in
theorem closed_ : joinedFacts Try.pinned.checked.prog 6 Try.f6 Rows.depgraphReductionSpec Rows.depgraphReductionRow = true := by
  unfold joinedFacts
  simp only [Bool.and_eq_true]
  repeat' apply And.intro
  all_goals (as_aux_lemma => kernel_rfl)
theorem over : Rows.depgraphReductionRow.holds Try.pinned (OpenSpec.ofChange Rows.depgraphReductionSpec) :=
  OpenClaim.holds_of_wide 6 Try.f6 rfl rfl rfl rfl rfl rfl rfl ⟨rfl, rfl, rfl, rfl, rfl⟩ rfl rfl rfl rfl rfl (by kernel_rfl) Try.func6 closed_
    (of_decide_eq_true (by kernel_rfl)) (by unfold Func.isWrapper; first | (rw [if_pos (by decide +kernel)]; kernel_rfl) | (rw [if_neg (by decide +kernel)]; exact ⟨rfl, rfl⟩))
    (fun os started H enc _ => lifted os started H enc)
theorem proved : Rows.DepgraphReductionSaid := over
#print axioms proved
end Go.Proofs.Ytofonbfpjfabbaa.depgraphReduction
namespace Go.Proofs.Ytofonbfpjfabbaa
/-- The row, under a short name, for the claim. -/
theorem depgraphReduction_holds : Rows.DepgraphReductionSaid := depgraphReduction.proved
end Go.Proofs.Ytofonbfpjfabbaa
