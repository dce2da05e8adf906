/-
  The pure statement of QuerylangCompile: the compiled function asks for the keys that the reference asks for, in order, and comes to its value.
-/
import Derived.Test.YtglckkkjfcomlaaSimQuerylangCompile
namespace Go.Proofs.Ytglckkkjfcomlaa.PrQuerylangCompile
open Go.RowKit Go.Proofs.YtglckkkjfcomlaaW.PrintWords Go.Proofs.YtglckkkjfcomlaaW.PrintLast Go.Proofs.YtglckkkjfcomlaaW.PrintMore Go.Proofs.Ytglckkkjfcomlaa.QQuerylangCompile Go.Proofs.Ytglckkkjfcomlaa.Aid
set_option linter.unusedSimpArgs false
set_option linter.unusedVariables false
theorem mod_some (a n : Int) (h0 : 0 < n) (h1 : n ≤ 4611686018427387904) : ∃ i, glossatorref3_Mod.f a n = some i ∧ 0 ≤ i ∧ i < n := by
  have h2 : -n < Int.tmod a n := Int.lt_tmod_of_pos a h0
  have h3 : Int.tmod a n < n := Int.tmod_lt_of_pos a h0
  unfold glossatorref3_Mod.f
  rw [if_neg (by omega)]
  split
  · exact ⟨_, rfl, by rw [wrap_id (by omega) (by omega)]; omega, by rw [wrap_id (by omega) (by omega)]; omega⟩
  · exact ⟨_, rfl, by omega, by omega⟩
theorem lk_some (vs : List S31) (hv : vs.length ≤ 140737488355328) (k1 k2 : Int) : ∃ x, lkP vs k1 k2 = some x := by
  unfold lkP
  by_cases c : vs.length = 0
  · exact ⟨_, if_pos c⟩
  · obtain ⟨i, h1, h2, h3⟩ := mod_some (wrap64 (wrap64 (k1 * 7) + k2)) (vs.length : Int) (by omega) (by omega)
    rw [if_neg c, h1, Option.bind_some, if_pos h2, if_pos h3]
    exact ⟨_, rfl⟩
/-- The number in a value. -/
def numV (x : S31) : Int := if x.f0.length = 0 then 0 else red (rd x.f0 0)
theorem numV_in (x : S31) : inM (numV x) := by
  unfold numV
  split
  · exact ⟨by omega, by omega⟩
  · exact red_in _
theorem number_eq (x : S31) : glossatorref3_Number.f x.f0 x.f1 = some (numV x) := by
  unfold glossatorref3_Number.f numV
  by_cases c : x.f0.length = 0
  · rw [if_pos (by omega), if_pos c]
  · rw [if_neg (by omega), if_pos (by omega), if_neg c, mod_eq, Option.bind_some]
theorem asks_qc (vs : List S31) (hv : vs.length ≤ 140737488355328) (a : Int) (own : Nat) : Asks (numG vs) (refG vs) (fun m s s' => s = s' ∧ s.length ≤ m) 24 a own := by
  refine ⟨fun m s s' h => ⟨h.1, by omega⟩, ?_⟩
  rintro m s _ k i hm ⟨rfl, hl⟩ h
  obtain ⟨x, hx⟩ := lk_some vs hv k i
  have hg : gotG vs s k i 0 = some (x, s ++ [⟨k, i, 0⟩]) := by
    unfold gotG
    rw [if_pos (by omega), hx]
    rfl
  refine ⟨numV x, s ++ [⟨k, i, 0⟩], s ++ [⟨k, i, 0⟩], ?_, ?_, ⟨rfl, by rw [List.length_append]; simp; omega⟩, numV_in x⟩
  · unfold numG
    rw [hg, Option.bind_some]
    simp only
    unfold numV
    by_cases c : x.f0.length = 0
    · rw [if_pos c, if_pos c]
    · rw [if_neg c, if_neg c, reduce_eq]
      rfl
  · unfold refG
    rw [hg, Option.bind_some]
    simp only
    rw [number_eq]
    rfl
theorem keyeq_ev (ks : List S26) (hl : ks.length ≤ 1000) : ∀ (d i : Nat), i + d = ks.length → Ev (fun k => api_QKey.l0 k ks ks (ks.length : Int) (i : Int)) true
  | 0, i, hi => Ev.some' (fun k => by
    simp only [api_QKey.l0]
    rw [if_neg (by omega)])
  | d + 1, i, hi => Ev.stepK (keyeq_ev ks hl d (i + 1) (by omega)) (fun k => by
    simp only [api_QKey.l0]
    rw [if_pos (by omega), if_pos (by omega), if_pos (by omega), if_pos (by omega), if_neg (by simp), wrap_id (by omega) (by omega)]
    rfl)
theorem keys_ev (ks : List S26) (hl : ks.length ≤ 1000) : Ev (fun k => api_QKey.f k ks ks) true := by
  unfold api_QKey.f
  refine Ev.pos rfl ?_
  exact keyeq_ev ks hl ks.length 0 (by omega)
theorem vals_nil : Ev (fun k => glossatorref3_EqualValues.f k [] (⟨#[]⟩ : ByteArray) [] (⟨#[]⟩ : ByteArray)) true := by
  unfold glossatorref3_EqualValues.f
  refine Ev.pos rfl ?_
  refine Ev.bind (r := true) ?_ (Ev.now _)
  unfold glossatorref3_Equal_int.f
  refine Ev.pos rfl ?_
  exact Ev.some' (fun k => by simp only [glossatorref3_Equal_int.l0]; rw [if_neg (by decide)])
theorem vals_far (n : Int) : Ev (fun k => glossatorref3_EqualValues.f k [n] (⟨#[]⟩ : ByteArray) [] (⟨#[]⟩ : ByteArray)) false := by
  unfold glossatorref3_EqualValues.f
  refine Ev.pos rfl ?_
  refine Ev.bind (r := false) ?_ (Ev.now _)
  unfold glossatorref3_Equal_int.f
  refine Ev.neg (by simp) ?_
  exact Ev.now _
theorem vals_one (n : Int) : Ev (fun k => glossatorref3_EqualValues.f k [n] (⟨#[]⟩ : ByteArray) [n] (⟨#[]⟩ : ByteArray)) true := by
  unfold glossatorref3_EqualValues.f
  refine Ev.pos rfl ?_
  refine Ev.bind (r := true) ?_ (Ev.now _)
  unfold glossatorref3_Equal_int.f
  refine Ev.pos rfl ?_
  refine Ev.stepK (f := fun k => glossatorref3_Equal_int.l0 k [n] [n] 1 1) (r := true) ?_ (fun k => ?_)
  · exact Ev.some' (fun k => by simp only [glossatorref3_Equal_int.l0]; rw [if_neg (by decide)])
  · simp only [glossatorref3_Equal_int.l0]
    rw [if_pos (by simp), if_pos (by decide), if_pos (by simp), if_pos (by simp), if_pos trivial, wrap_id (by decide) (by decide)]
    rfl
theorem law_ev (a : Int) (l : List (List S160)) (hl : l.length ≤ 5864062014634) (hi : ∀ q ∈ l, q.length ≤ 5864062014634) (k1 k2 k3 : Int) (vs : List S31) (hv : vs.length ≤ 140737488355328) : Ev (fun k => glossatorlaw3_QuerylangCompile.f k a l k1 k2 k3 vs) true := by
  unfold glossatorlaw3_QuerylangCompile.f
  refine Ev.bind example_ev (Ev.pos rfl ?_)
  have hi2 : ∀ q ∈ l, q.length ≤ 140737488355328 := fun q hq => by have := hi q hq; omega
  refine Ev.bind (check_ev a l (by omega) hi2) (Ev.pos ⟨by omega, ?_⟩ ?_)
  · refine List.all_eq_true.2 (fun q hq => ?_)
    unfold api_QOp_88.f
    have := hi q hq
    rw [if_pos (by simp; omega)]
    rfl
  by_cases c : cmpOk (chkP a l == 0) l k1 k2 k3
  · obtain ⟨c0, rfl, rfl, h3, h4⟩ := id c
    have h0 : chkP a l = 0 := by simpa using c0
    obtain ⟨g1, g2, g3, g4⟩ := chkP_ok h0
    obtain ⟨j, rfl⟩ : ∃ j : Nat, k2 = (j : Int) := ⟨k2.toNat, by omega⟩
    have hj : j < l.length := by omega
    have hq : l[j]? = some l[j] := List.getElem?_eq_getElem hj
    have hrq : rdq l (j : Int) = l[j] := by simp [rdq, List.getD_eq_getElem?_getD, hj]
    have hcq := chkQs_all g4 j _ hq
    rw [Nat.zero_add] at hcq
    have hlq := g2 _ (List.getElem_mem hj)
    have S := fun kf => sim (asks_qc vs hv a j) kf l[j] [] zeros24 [] [] hcq stk_zero (by simp; omega) 0 (by omega) ⟨rfl, Nat.le_refl _⟩
    obtain ⟨n, ks, _, _, s2, ⟨rfl, s3⟩, _⟩ := S 0
    have hks : ks.length ≤ 1000 := by omega
    have e0 : ([] : List Int).length = 0 := rfl
    rw [e0] at s2
    have hC : Ev (fun k => cmpP vs k (chkP a l == 0) l 1 (j : Int) 0 []) ([n], ks) := by
      refine Ev.some' (fun k => ?_)
      obtain ⟨n', ks', _, t1, t2, ⟨rfl, _⟩, _⟩ := S k
      rw [e0, s2] at t2
      injection t2 with t2
      simp only [Prod.mk.injEq] at t2
      obtain ⟨rfl, _, rfl⟩ := t2
      unfold cmpP
      rw [if_pos c, hrq, t1]
      rfl
    refine Ev.bind hC (Ev.bind (ref_ev a l (by omega) hi2) (Ev.bind (vals_far n) (Ev.neg (by omega) ?_)))
    rw [hrq, s2]
    exact Ev.bind (Ev.now _) (Ev.bind (keys_ev ks hks) (Ev.pos rfl (Ev.bind (vals_one n) (Ev.pos rfl (Ev.now _)))))
  · have hC : Ev (fun k => cmpP vs k (chkP a l == 0) l k1 k2 k3 []) ([], []) := by
      refine Ev.some' (fun k => ?_)
      unfold cmpP
      rw [if_neg c]
    refine Ev.bind hC (Ev.bind (ref_ev a l (by omega) hi2) (Ev.bind vals_nil (Ev.pos ?_ (Ev.now _))))
    unfold cmpOk at c
    rw [beq_iff_eq] at c
    omega
end Go.Proofs.Ytglckkkjfcomlaa.PrQuerylangCompile
namespace Go.Proofs.Ytglckkkjfcomlaa.Pr
open Go.RowKit Go.Proofs.YtglckkkjfcomlaaW.PrintWords Go.Proofs.YtglckkkjfcomlaaW.PrintLast Go.Proofs.YtglckkkjfcomlaaW.PrintMore Go.Proofs.Ytglckkkjfcomlaa.QQuerylangCompile Go.Proofs.Ytglckkkjfcomlaa.Aid
theorem QuerylangCompile : glossatorlaw3_QuerylangCompile.PureR := by
  intro p key vs hp _ hv
  have h1 : p.f1.length ≤ 5864062014634 := by have := hp.2.1.2; omega
  have h2 : ∀ q ∈ p.f1, q.length ≤ 5864062014634 := fun q hq => by have := (hp.2.2 q hq).1.2; omega
  have h3 : vs.length ≤ 140737488355328 := by have := hv.1.2; omega
  exact (Go.Proofs.Ytglckkkjfcomlaa.PrQuerylangCompile.law_ev p.f0 p.f1 h1 h2 key.f0 key.f1 key.f2 vs h3).rounds
end Go.Proofs.Ytglckkkjfcomlaa.Pr
