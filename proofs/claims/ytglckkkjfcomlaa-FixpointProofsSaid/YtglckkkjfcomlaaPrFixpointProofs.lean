/-
  The pure statement of FixpointProofs: Derive finds a valid, short proof exactly for what the least solution has, and Verify answers as the reference's Proves.
-/
import Derived.Test.YtglckkkjfcomlaaPdFixpointProofs
namespace Go.Proofs.Ytglckkkjfcomlaa.PrFixpointProofs
open Go.RowKit Go.Proofs.YtglckkkjfcomlaaW.PrintWords Go.Proofs.YtglckkkjfcomlaaW.PrintLast Go.Proofs.YtglckkkjfcomlaaW.PrintMore Go.Proofs.Ytglckkkjfcomlaa.QFixpointProofs Go.Proofs.Ytglckkkjfcomlaa.Aid Go.Proofs.Ytglckkkjfcomlaa.FixMath
set_option linter.unusedSimpArgs false
set_option linter.unusedVariables false
theorem example_ev : Ev (fun k => glossatorlaw3_ruleExample.f k) true := Ev.of (k := 60) (fun k => glossatorlaw3_ruleExample.mono k) (by decide +kernel)
theorem sized_of (rs : List (List S58)) (h : ((rs.length ≤ maxLen ∧ rs.length * 24 ≤ 140737488351232) ∧ ∀ x0 ∈ rs, (x0.length ≤ maxLen ∧ x0.length * 32 ≤ 140737488351232) ∧ ∀ x1 ∈ x0, ok58 x1)) : Sized rs :=
  ⟨by have := h.1.2; omega, fun l hl => ⟨by have := (h.2 l hl).1.2; omega, fun r hr => by have := ((h.2 l hl).2 r hr).2.1.2; omega⟩⟩
theorem j2_bad (rs : List (List S58)) (st el : Int) (e : Int) (he : e ≠ 0) : Ev (fun k => glossatorlaw3_FixpointProofs.j2 k rs st el [] e e) true := by
  refine Ev.stepK (f := fun k => (glossatorlaw3_ruleExample.f k).bind fun t308 => (if t308 = true then (if e = e then (some ((([] : List S182).length : Int) == 0)) else (some false)) else (some false))) (Ev.bind example_ev (Ev.pos rfl (Ev.pos rfl (Ev.now _)))) (fun k => ?_)
  simp only [glossatorlaw3_FixpointProofs.j2]
  rw [if_neg he]
theorem j2_good (rs : List (List S58)) (hs : Sized rs) (hv : Vd rs) (st el : Int) (F : List S182) (h1 : F.length ≤ rs.length) (h2 : provesV rs F st el = true) : Ev (fun k => glossatorlaw3_FixpointProofs.j2 k rs st el F 0 0) true := by
  have hp := proves_ev rs hs hv F (by have := hs.1; omega) st el
  rw [h2] at hp
  refine Ev.stepK (f := fun k => (glossatorlaw3_ruleExample.f k).bind fun t306 => (if t306 = true then (if (0 : Int) = 0 then (if (F.length : Int) ≤ (rs.length : Int) then ((glossatorref3_Proves.f k rs F st el).bind fun t307 => (some t307)) else (some false)) else (some false)) else (some false))) (Ev.bind example_ev (Ev.pos rfl (Ev.pos rfl (Ev.pos (by omega) (Ev.bind hp (Ev.now _)))))) (fun k => ?_)
  simp only [glossatorlaw3_FixpointProofs.j2]
  rw [if_pos trivial]
theorem j0_step {rs : List (List S58)} {st el : Int} {pr F : List S182} {e c : Int} {V : Bool} (hv : Ev (fun k => fixpoint_Verify.f k rs pr st el) V) (h : Ev (fun k => if c = 0 then (if st < 0 then (glossatorlaw3_FixpointProofs.j1 k rs st el F e c true) else (if st ≥ (rs.length : Int) then (glossatorlaw3_FixpointProofs.j1 k rs st el F e c true) else (if el < 0 then (glossatorlaw3_FixpointProofs.j1 k rs st el F e c true) else (glossatorlaw3_FixpointProofs.j1 k rs st el F e c (decide (el ≥ 20)))))) else (glossatorlaw3_FixpointProofs.j2 k rs st el F e c)) true) : Ev (fun k => glossatorlaw3_FixpointProofs.j0 k rs st el pr F e c V) true := by
  refine Ev.stepK (Ev.bind hv (f := fun k t300 => if (t300 != V) = true then (some false) else (if c = 0 then (if st < 0 then (glossatorlaw3_FixpointProofs.j1 k rs st el F e c true) else (if st ≥ (rs.length : Int) then (glossatorlaw3_FixpointProofs.j1 k rs st el F e c true) else (if el < 0 then (glossatorlaw3_FixpointProofs.j1 k rs st el F e c true) else (glossatorlaw3_FixpointProofs.j1 k rs st el F e c (decide (el ≥ 20)))))) else (glossatorlaw3_FixpointProofs.j2 k rs st el F e c))) (Ev.neg (by simp) h)) (fun k => ?_)
  simp only [glossatorlaw3_FixpointProofs.j0]
theorem j1_out (rs : List (List S58)) (st el : Int) : Ev (fun k => glossatorlaw3_FixpointProofs.j1 k rs st el [] 1 0 true) true := by
  refine Ev.stepK (j2_bad rs st el 1 (by omega)) (fun k => ?_)
  simp only [glossatorlaw3_FixpointProofs.j1]
  rw [if_pos trivial]
theorem j1_in {rs : List (List S58)} {st el : Int} {F : List S182} {e : Int} {L : List Int × Int} (hk : Ev (fun k => glossatorref3_Kleene.f k rs) L) (a1 : 0 ≤ st) (a2 : st < (L.1.length : Int)) (a3 : 0 ≤ el) (h : Ev (fun k => if (Go.bits .and .i64 (rd L.1 st) (shl .i64 1 el)) = 0 then (glossatorlaw3_FixpointProofs.j2 k rs st el F e 5) else (glossatorlaw3_FixpointProofs.j2 k rs st el F e 0)) true) : Ev (fun k => glossatorlaw3_FixpointProofs.j1 k rs st el F e 0 false) true := by
  refine Ev.stepK (Ev.bind hk (f := fun k bt301 => if 0 ≤ st then (if st < (bt301.1.length : Int) then (if 0 ≤ el then (if (Go.bits .and .i64 (rd bt301.1 st) (shl .i64 1 el)) = 0 then (glossatorlaw3_FixpointProofs.j2 k rs st el F e 5) else (glossatorlaw3_FixpointProofs.j2 k rs st el F e 0)) else (none)) else (none)) else (none)) (Ev.pos a1 (Ev.pos a2 (Ev.pos a3 h)))) (fun k => ?_)
  simp only [glossatorlaw3_FixpointProofs.j1]
  rw [if_neg (by simp)]
theorem law_ev (rs : List (List S58)) (hs : Sized rs) (st el : Int) (pr : List S182) (hp : pr.length ≤ 140737488355328) : Ev (fun k => glossatorlaw3_FixpointProofs.f k rs st el pr) true := by
  unfold glossatorlaw3_FixpointProofs.f
  refine Ev.bind example_ev (Ev.pos rfl ?_)
  by_cases hc : chk rs = 0
  · have hv := chk_ok hc
    have hR := rules_ev rs hs
    rw [hc] at hR
    obtain ⟨M, m1, m2, m3⟩ := stops (m := S58.f0) (a := S58.f1) (rs := rs) hv
    have hK := kleene_ev rs hs hv M m1 m2 m3
    have hV := verify_ev rs hs hv hc pr hp st el
    have hP := proves_ev rs hs hv pr hp st el
    by_cases ho : st < 0 ∨ st ≥ (rs.length : Int) ∨ el < 0 ∨ el ≥ 20
    · refine Ev.bind (derive_out hs hc ho) (Ev.bind hR (Ev.pos rfl (Ev.bind hP (j0_step hV (Ev.pos rfl ?_)))))
      have o1 := j1_out rs st el
      by_cases c1 : st < 0
      · exact Ev.pos c1 o1
      refine Ev.neg c1 ?_
      by_cases c2 : st ≥ (rs.length : Int)
      · exact Ev.pos c2 o1
      refine Ev.neg c2 ?_
      by_cases c3 : el < 0
      · exact Ev.pos c3 o1
      refine Ev.neg c3 ?_
      rw [decide_eq_true (show el ≥ 20 by omega)]
      exact o1
    · have a1 : 0 ≤ st := by omega
      have a2 : st < (rs.length : Int) := by omega
      have a3 : 0 ≤ el := by omega
      have a4 : el < 20 := by omega
      have hsm : small (rd (chn rs M) st) := rd_small (chain_small hv M) st
      have hb := shl_bit hsm a3 a4
      obtain ⟨d1, d2⟩ := derive_found hs hc a1 a2 a3 a4 m1
      have hdec : decide (el ≥ 20) = false := decide_eq_false (by omega)
      cases hbit : bit (rd (chn rs M) st) el.toNat with
      | false =>
        refine Ev.bind (d1 hbit) (Ev.bind hR (Ev.pos rfl (Ev.bind hP (j0_step hV (Ev.pos rfl (Ev.neg (by omega) (Ev.neg (by omega) (Ev.neg (by omega) ?_))))))))
        rw [hdec]
        exact j1_in hK a1 (by rw [chn_len]; exact a2) a3 (Ev.pos (hb.2 hbit) (j2_bad rs st el 5 (by omega)))
      | true =>
        obtain ⟨F, e1, e2, e3⟩ := d2 hbit
        refine Ev.bind e1 (Ev.bind hR (Ev.pos rfl (Ev.bind hP (j0_step hV (Ev.pos rfl (Ev.neg (by omega) (Ev.neg (by omega) (Ev.neg (by omega) ?_))))))))
        rw [hdec]
        refine j1_in hK a1 (by rw [chn_len]; exact a2) a3 (Ev.neg (fun z => ?_) (j2_good rs hs hv st el F e2 e3))
        have := hb.1 z
        rw [hbit] at this
        cases this
  · exact Ev.bind (derive_bad hs hc st el) (Ev.bind (rules_ev rs hs) (Ev.neg hc (j0_step (verify_bad rs hs hc pr st el) (Ev.neg hc (j2_bad rs st el _ hc)))))
end Go.Proofs.Ytglckkkjfcomlaa.PrFixpointProofs
namespace Go.Proofs.Ytglckkkjfcomlaa.Pr
open Go.RowKit Go.Proofs.YtglckkkjfcomlaaW.PrintWords Go.Proofs.YtglckkkjfcomlaaW.PrintLast Go.Proofs.YtglckkkjfcomlaaW.PrintMore Go.Proofs.Ytglckkkjfcomlaa.QFixpointProofs
theorem FixpointProofs : glossatorlaw3_FixpointProofs.PureR := fun rs st el pr h _ _ hp => (Go.Proofs.Ytglckkkjfcomlaa.PrFixpointProofs.law_ev rs (Go.Proofs.Ytglckkkjfcomlaa.PrFixpointProofs.sized_of rs h) st el pr (by have := hp.1.2; omega)).rounds
end Go.Proofs.Ytglckkkjfcomlaa.Pr
