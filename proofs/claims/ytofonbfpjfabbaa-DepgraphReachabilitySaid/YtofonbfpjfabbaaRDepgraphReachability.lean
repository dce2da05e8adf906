/- The law DepgraphReachability answers true at every input, and its arguments read behind the call as before: the given statement DepgraphReachabilitySaid. Conditions: none. (Written by gen.py, this repo's wip/: the row, out of the pure statement and the walk.) -/
import Derived.Test.YtofonbfpjfabbaaRows
import Derived.Test.YtofonbfpjfabbaaPrDepgraphReachability
import Derived.WalkKit
import Derived.ProofKit
import Derived.OpenShut
import Derived.ShutString
import Derived.ChangeOld
import Derived.Below
import Derived.SizedLaws
import Derived.Carry
namespace Go.Proofs.Ytofonbfpjfabbaa.depgraphReachability
open Go.ChangeShapes Go.WideShapes Go.ChangeAt Go.RowKit Go.Proofs.Ytofonbfpjfabbaa.Door Go.Proofs.Ytofonbfpjfabbaa.QDepgraphReachability Go.Proofs.YtofonbfpjfabbaaW.PrintWords
open Go.ChangeMaps (open_string shut_string)
set_option linter.unusedVariables false
set_option linter.unusedSimpArgs false
theorem own : ownKnob Try.prog.godebug = none := by kernel_rfl
theorem laidOut : laidOutB Try.prog = true := by kernel_rfl
set_option maxRecDepth 100000 in
set_option maxHeartbeats 1000000 in
theorem lifted (os : Os) (started : os.Started) (H : Type) (enc : TypeId × Value → H) :
    ReturnsInHanded {} Try.checked os 3 .any (Rows.depgraphReachabilitySpec.pre6 enc Try.prog Try.f3 Rows.depgraphReachabilityRow.domain false) (Rows.depgraphReachabilitySpec.post enc Try.prog Try.f3 false true false false) := by
  refine returnsInHanded_of_change_sized (C := Try.checked) own started (by kernel_rfl) Try.func3
    (ChangeSpec.witness6 (enc := enc) (C := Try.checked) false ⟨#[], #[.slice none 0 0, .agg #[.int .i64 0, .int .i64 0, .int .i64 0]], []⟩ 8 (by kernel_rfl) (by kernel_rfl) (by kernel_rfl) (by kernel_rfl)) ?_
  intro W base args ds gs before hval0 hW hcnd hsz0 _
  have hsz : (DataW.weightsEach Try.prog (Try.f3.params.toList ++ Rows.depgraphReachabilitySpec.plain.varTypes Try.prog) (ds ++ gs)).all (· ≤ reachBytes) = true := hsz0
  have hval : ∀ (j : Nat) t v, Try.f3.params[j]? = some t → args[j]? = some v → Value.okWide Try.prog W .any base t v := hval0
  have hW' := hW
  obtain ⟨p, q, hA0, hV, rfl, hfz, hnd⟩ := hW
  have hA : DataW.TrodAll enc Try.prog W 0 (fun _ => true) true Try.f3.params.toList args.toList ds p := hA0
  rw [Try.params3] at hA hval hsz
  have hKeep := hA
  obtain ⟨v0, vs0, d0, ds0, p0, q0, hargs, rfl, rfl, h0, r0⟩ := trodAll_cons hA
  obtain ⟨v1, vs1, d1, ds1, p1, q1, rfl, rfl, rfl, h1, r1⟩ := trodAll_cons r0
  obtain ⟨rfl, rfl, rfl⟩ := trodAll_nil r1
  obtain rfl : args = #[v0, v1] := by cases args; simp_all
  obtain ⟨rfl, rfl⟩ := trodVars_none hV
  obtain ⟨A0, c0, a0, rfl, hc0, hr0, w0⟩ := top_slice Try.underlying22 (opens_slice Try.underlying22 (by kernel_rfl) (by kernel_rfl) opens44) (hval 0 22 v0 rfl rfl) h0 (weights_of hsz (j := 0) rfl rfl)
  obtain ⟨a1, cs1, rfl, hk1, w1⟩ := top_struct Try.underlying24 opens24 (hval 1 24 v1 rfl rfl) h1 (weights_of hsz (j := 1) rfl rfl)
  obtain ⟨l1, e1, hk1'⟩ : ∃ l : List Value, cs1.toList = l ∧ k24.K W a1 l := ⟨_, rfl, hk1⟩
  clear hk1
  obtain ⟨_, _, rfl, rfl, ⟨_, _, rfl, rfl, rfl⟩⟩ := hk1'
  obtain rfl : cs1 = #[.int .i64 (a1.f0), .int .i64 (a1.f1), .int .i64 (a1.f2)] := by apply Array.toList_inj.1; rw [e1]; rfl
  obtain ⟨k, h⟩ := Pr.DepgraphReachability a0 a1 w0 w1
  clear hA0 hval0 hsz0 hsz
  refine (glossatorlaw3_DepgraphReachability.calls k _ _ _ _ _ _ true W hr0 hc0 h).mono fun e W' ⟨he, bel⟩ => ?_
  subst he
  exact ⟨_, rfl, _, _, _, [], _, [], hW', trodAll_mk1 (shut_bool Try.underlying4 _), trodAll_behind laidOut (by intro t ht; have ht2 : t ∈ [22, 24] := ht; clear ht; revert t; simp only [List.mem_cons, List.not_mem_nil, or_false, forall_eq_or_imp, forall_eq]; exact ⟨⟨by kernel_rfl, of_decide_eq_true (by kernel_rfl)⟩, ⟨by kernel_rfl, of_decide_eq_true (by kernel_rfl)⟩⟩) hKeep bel, rfl, bel.frame _, fun h => by cases h⟩
set_option maxRecDepth 100000 in
set_option maxHeartbeats 40000000 in
theorem closed_ : joinedFacts Try.pinned.checked.prog 3 Try.f3 Rows.depgraphReachabilitySpec Rows.depgraphReachabilityRow = true := by
  unfold joinedFacts
  simp only [Bool.and_eq_true]
  repeat' apply And.intro
  all_goals (as_aux_lemma => kernel_rfl)
theorem over : Rows.depgraphReachabilityRow.holds Try.pinned (OpenSpec.ofChange Rows.depgraphReachabilitySpec) :=
  OpenClaim.holds_of_wide 3 Try.f3 rfl rfl rfl rfl rfl rfl rfl ⟨rfl, rfl, rfl, rfl, rfl⟩ rfl rfl rfl rfl rfl (by kernel_rfl) Try.func3 closed_
    (of_decide_eq_true (by kernel_rfl)) (by unfold Func.isWrapper; first | (rw [if_pos (by decide +kernel)]; kernel_rfl) | (rw [if_neg (by decide +kernel)]; exact ⟨rfl, rfl⟩))
    (fun os started H enc _ => lifted os started H enc)
theorem proved : Rows.DepgraphReachabilitySaid := over
#print axioms proved
end Go.Proofs.Ytofonbfpjfabbaa.depgraphReachability
namespace Go.Proofs.Ytofonbfpjfabbaa
/-- The row, under a short name, for the claim. -/
theorem depgraphReachability_holds : Rows.DepgraphReachabilitySaid := depgraphReachability.proved
end Go.Proofs.Ytofonbfpjfabbaa
