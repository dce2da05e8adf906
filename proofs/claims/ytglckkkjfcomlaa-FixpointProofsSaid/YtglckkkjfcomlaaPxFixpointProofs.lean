/-
  Proofs over a system of rules: when a step is valid, what Verify and the reference's Proves answer, and what Derive finds.
-/
import Derived.Test.YtglckkkjfcomlaaEvFixpointProofs
namespace Go.Proofs.Ytglckkkjfcomlaa.PrFixpointProofs
open Go.RowKit Go.Proofs.YtglckkkjfcomlaaW.PrintWords Go.Proofs.YtglckkkjfcomlaaW.PrintLast Go.Proofs.YtglckkkjfcomlaaW.PrintMore Go.Proofs.Ytglckkkjfcomlaa.QFixpointProofs Go.Proofs.Ytglckkkjfcomlaa.Aid Go.Proofs.Ytglckkkjfcomlaa.FixMath
set_option linter.unusedSimpArgs false
set_option linter.unusedVariables false
set_option linter.unusedSectionVars false

theorem shr_bit {x e : Int} (hx : small x) (h0 : 0 ≤ e) (h1 : e < 20) : (Go.bits .and .i64 (shr .i64 x e) 1 = 1) ↔ bit x e.toNat = true := by
  obtain ⟨A, rfl⟩ := Int.eq_ofNat_of_zero_le hx.1
  obtain ⟨E, rfl⟩ := Int.eq_ofNat_of_zero_le h0
  have hA := hx.2
  have e1 : shr .i64 (A : Int) (E : Int) = ((A / 2 ^ E : Nat) : Int) := by
    unfold shr
    rw [Int.toNat_natCast, Nat.min_eq_left (by show E ≤ 64; omega), Int.natCast_ediv, Int.natCast_pow]
    rfl
  have hle : A / 2 ^ E ≤ A := Nat.div_le_self _ _
  rw [e1]
  have e2 := i64_and_nat (A / 2 ^ E) 1 (by omega) (by omega)
  rw [show ((1 : Nat) : Int) = 1 from rfl] at e2
  rw [e2, Nat.and_one_is_mod]
  unfold bit
  rw [Int.toNat_natCast, Int.toNat_natCast, Nat.testBit_eq_decide_div_mod_eq, decide_eq_true_eq]
  omega
theorem shl_bit {x e : Int} (hx : small x) (h0 : 0 ≤ e) (h1 : e < 20) : (Go.bits .and .i64 x (shl .i64 1 e) = 0) ↔ bit x e.toNat = false := by
  obtain ⟨A, rfl⟩ := Int.eq_ofNat_of_zero_le hx.1
  obtain ⟨E, rfl⟩ := Int.eq_ofNat_of_zero_le h0
  have hA := hx.2
  have hE : E < 20 := by omega
  have hp : 2 ^ E ≤ 2 ^ 19 := Nat.pow_le_pow_right (by omega) (by omega)
  have e1 : shl .i64 1 (E : Int) = ((2 ^ E : Nat) : Int) := by
    unfold shl
    rw [Int.toNat_natCast, Nat.min_eq_left (by show E ≤ 64; omega), Int.one_mul, show ((2 : Int) ^ E) = ((2 ^ E : Nat) : Int) by rw [Int.natCast_pow]; rfl]
    generalize 2 ^ E = y at hp
    simp only [IntKind.wrap, IntKind.bits, IntKind.signed]
    simp
    omega
  rw [e1, i64_and_nat _ _ (by omega) (by omega)]
  unfold bit
  rw [Int.toNat_natCast, Int.toNat_natCast]
  constructor
  · intro h
    have h2 : A &&& 2 ^ E = 0 := by omega
    have h3 : (A &&& 2 ^ E).testBit E = false := by rw [h2]; exact Nat.zero_testBit E
    rw [Nat.testBit_and, Nat.testBit_two_pow, decide_eq_true rfl, Bool.and_true] at h3
    exact h3
  · intro h
    have h2 : A &&& 2 ^ E = 0 := by
      refine Nat.eq_of_testBit_eq (fun i => ?_)
      rw [Nat.testBit_and, Nat.testBit_two_pow, Nat.zero_testBit]
      by_cases c : E = i
      · subst c
        rw [h, Bool.false_and]
      · rw [decide_eq_false c, Bool.and_false]
    rw [h2]
    rfl
/-! Steps. -/
def ruleOf (rules : List (List S58)) (d : S182) : S58 := rd_T58 (rd_L3 rules d.f0) d.f1
def hasD (pre : List S182) (j e : Int) : Bool := pre.any (fun q => decide (q.f0 = j) && decide (q.f2 = e))
def inD (rules : List (List S58)) (d : S182) : Prop := (0 ≤ d.f0 ∧ d.f0 < (rules.length : Int)) ∧ (0 ≤ d.f1 ∧ d.f1 < ((rd_L3 rules d.f0).length : Int)) ∧ (0 ≤ d.f2 ∧ d.f2 < 20)
instance (rules : List (List S58)) (d : S182) : Decidable (inD rules d) := by unfold inD; infer_instance
def okD (rules : List (List S58)) (pre : List S182) (d : S182) : Bool := decide (inD rules d) && (bit (ruleOf rules d).f0 d.f2.toNat && (ruleOf rules d).f1.all (fun j => hasD pre j d.f2))
def prB (rules : List (List S58)) : List S182 → List S182 → Bool
  | _, [] => true
  | pre, d :: t => okD rules pre d && prB rules (pre ++ [d]) t
def lastD (proof : List S182) (s e : Int) : Bool := match proof.getLast? with
  | none => false
  | some d => decide (d.f0 = s) && decide (d.f2 = e)
def provesV (rules : List (List S58)) (proof : List S182) (s e : Int) : Bool := prB rules [] proof && lastD proof s e
theorem rdL_mem {rules : List (List S58)} {i : Int} (h0 : 0 ≤ i) (h1 : i < (rules.length : Int)) : rd_L3 rules i ∈ rules := by
  unfold rd_L3
  have hi : i.toNat < rules.length := by omega
  rw [List.getD_eq_getElem?_getD, List.getElem?_eq_getElem hi]
  exact List.getElem_mem hi
theorem rdT_mem {l : List S58} {i : Int} (h0 : 0 ≤ i) (h1 : i < (l.length : Int)) : rd_T58 l i ∈ l := by
  unfold rd_T58
  have hi : i.toNat < l.length := by omega
  rw [List.getD_eq_getElem?_getD, List.getElem?_eq_getElem hi]
  exact List.getElem_mem hi
theorem rule_in {rules : List (List S58)} {d : S182} (h : inD rules d) : ∃ l ∈ rules, ruleOf rules d ∈ l := ⟨_, rdL_mem h.1.1 h.1.2, rdT_mem h.2.1.1 h.2.1.2⟩
/-! The last step of a proof. -/
theorem last_ev (proof : List S182) (s e : Int) (hx : proof.length ≤ 140737488355328) (hne : 0 < proof.length) : (if 0 ≤ (wrap64 ((proof.length : Int) - 1)) then (if (wrap64 ((proof.length : Int) - 1)) < (proof.length : Int) then (if ((rd_T182 proof (wrap64 ((proof.length : Int) - 1))).f0) = s then (some (((rd_T182 proof (wrap64 ((proof.length : Int) - 1))).f2) == e)) else (some false)) else (none)) else (none)) = some (lastD proof s e) := by
  rw [wrap_id (n := (proof.length : Int) - 1) (by omega) (by omega), if_pos (by omega), if_pos (by omega)]
  have h1 : proof.getLast? = some (rd_T182 proof ((proof.length : Int) - 1)) := by
    rw [List.getLast?_eq_getElem?]
    unfold rd_T182
    have hi : ((proof.length : Int) - 1).toNat = proof.length - 1 := by omega
    rw [hi, List.getD_eq_getElem?_getD, List.getElem?_eq_getElem (by omega)]
    rfl
  unfold lastD
  rw [h1]
  simp only []
  by_cases c : (rd_T182 proof ((proof.length : Int) - 1)).f0 = s
  · rw [if_pos c, decide_eq_true c, Bool.true_and]
    congr 1
  · rw [if_neg c, decide_eq_false c, Bool.false_and]
section
variable (rules : List (List S58)) (hs : Sized rules) (hv : Vd rules)
include hs hv
/-! The reference's Proves. -/
theorem proves_l2 (proof : List S182) (s e n j : Int) (b1 : List S182) (l1 q1 : Int) (row : List Int) (rl rq : Int) (Y : List S182) (hY : Y.length ≤ 140737488355328) (d0 d1 d2 : Int) {R : Bool} :
    ∀ (t : List S182) (q : Nat) (b : Bool), Y.drop q = t → ((b || hasD t j d2) = true → Ev (fun k => glossatorref3_Proves.l1 k rules proof s e n b1 l1 q1 row rl (wrap64 (rq + 1)) d0 d1 d2) R) → ((b || hasD t j d2) = false → R = false) →
      Ev (fun k => glossatorref3_Proves.l2 k rules proof s e n j b b1 l1 q1 row rl rq Y (Y.length : Int) (q : Int) d0 d1 d2) R
  | [], q, b, h, g1, g0 => by
    have := drop_nil h
    by_cases c : b = true
    · refine Ev.stepK (g1 (by rw [c]; rfl)) (fun k => ?_)
      simp only [glossatorref3_Proves.l2]
      rw [if_neg (by omega), if_pos c]
    · rw [g0 (by simpa [hasD] using c)]
      refine Ev.some' (fun k => ?_)
      simp only [glossatorref3_Proves.l2]
      rw [if_neg (by omega), if_neg c]
  | x :: t, q, b, h, g1, g0 => by
    obtain ⟨i1, i2, i3, i4⟩ := drop_cons h
    have er : rd_T182 Y (q : Int) = x := i3 _
    have ih := proves_l2 proof s e n j b1 l1 q1 row rl rq Y hY d0 d1 d2 (R := R) t (q + 1)
    by_cases c : b = true
    · refine Ev.stepK (ih true i2 (fun _ => g1 (by rw [c]; rfl)) (fun z => by simp at z)) (fun k => ?_)
      simp only [glossatorref3_Proves.l2]
      rw [if_pos (by omega), if_pos (by omega), if_pos (by omega), if_pos c, wrap_id (n := (q : Int) + 1) (by omega) (by omega)]
      rfl
    · have hb : b = false := by simpa using c
      subst hb
      by_cases c2 : x.f0 = j
      · have e2 : (false || hasD (x :: t) j d2) = ((x.f2 == d2) || hasD t j d2) := by
          unfold hasD
          rw [List.any_cons, decide_eq_true c2]
          simp
          rfl
        rw [e2] at g1 g0
        refine Ev.stepK (ih (x.f2 == d2) i2 g1 g0) (fun k => ?_)
        simp only [glossatorref3_Proves.l2]
        rw [if_pos (by omega), if_pos (by omega), if_pos (by omega), if_neg (by simp), er, if_pos c2, wrap_id (n := (q : Int) + 1) (by omega) (by omega)]
        rfl
      · have e2 : (false || hasD (x :: t) j d2) = (false || hasD t j d2) := by
          unfold hasD
          rw [List.any_cons, decide_eq_false c2]
          simp
        rw [e2] at g1 g0
        refine Ev.stepK (ih false i2 g1 g0) (fun k => ?_)
        simp only [glossatorref3_Proves.l2]
        rw [if_pos (by omega), if_pos (by omega), if_pos (by omega), if_neg (by simp), er, if_neg c2, wrap_id (n := (q : Int) + 1) (by omega) (by omega)]
        rfl
theorem proves_l1 (proof : List S182) (hp : proof.length ≤ 140737488355328) (s e : Int) (n : Nat) (hn : n ≤ proof.length) (row : List Int) (hrow : row.length ≤ 140737488355328) (d0 d1 d2 : Int) {R : Bool} :
    ∀ (t : List Int) (q : Nat), row.drop q = t → (t.all (fun j => hasD (proof.take n) j d2) = true → Ev (fun k => glossatorref3_Proves.l0 k rules proof s e proof (proof.length : Int) ((n + 1 : Nat) : Int)) R) → (t.all (fun j => hasD (proof.take n) j d2) = false → R = false) →
      Ev (fun k => glossatorref3_Proves.l1 k rules proof s e (n : Int) proof (proof.length : Int) (n : Int) row (row.length : Int) (q : Int) d0 d1 d2) R
  | [], q, h, g1, g0 => by
    have := drop_nil h
    refine Ev.stepK (g1 rfl) (fun k => ?_)
    simp only [glossatorref3_Proves.l1]
    rw [if_neg (by omega), wrap_id (n := (n : Int) + 1) (by omega) (by omega)]
    rfl
  | j :: t, q, h, g1, g0 => by
    obtain ⟨i1, i2, i3, i4⟩ := drop_cons h
    have er : rd row (q : Int) = j := i3 _
    have ih := proves_l1 proof hp s e n hn row hrow d0 d1 d2 (R := R) t (q + 1) i2
    have hl := proves_l2 rules hs hv proof s e (n : Int) j proof (proof.length : Int) (n : Int) row (row.length : Int) (q : Int) (proof.take n) (by rw [List.length_take]; omega) d0 d1 d2 (R := R) (proof.take n) 0 false rfl ?_ ?_
    · refine Ev.stepK hl (fun k => ?_)
      simp only [glossatorref3_Proves.l1]
      rw [if_pos (by omega), if_pos (by omega), if_pos (by omega), if_pos (by omega), if_pos (by omega), Option.bind_some, er, Int.toNat_natCast]
      rfl
    · intro z
      rw [Bool.false_or] at z
      rw [wrap_id (n := (q : Int) + 1) (by omega) (by omega)]
      exact ih (fun y => g1 (by rw [List.all_cons, z, y]; rfl)) (fun y => g0 (by rw [List.all_cons, z, y]; rfl))
    · intro z
      rw [Bool.false_or] at z
      exact g0 (by rw [List.all_cons, z]; rfl)
theorem proves_l0 (proof : List S182) (hp : proof.length ≤ 140737488355328) (s e : Int) : ∀ (t : List S182) (n : Nat), proof.drop n = t → Ev (fun k => glossatorref3_Proves.l0 k rules proof s e proof (proof.length : Int) (n : Int)) (prB rules (proof.take n) t && lastD proof s e)
  | [], n, h => by
    have := drop_nil h
    refine Ev.some' (fun k => ?_)
    simp only [glossatorref3_Proves.l0]
    rw [if_neg (by omega), prB, Bool.true_and]
    by_cases c : 0 < proof.length
    · rw [if_pos (by omega)]
      exact last_ev proof s e hp c
    · rw [if_neg (by omega)]
      have : proof = [] := List.eq_nil_iff_length_eq_zero.2 (by omega)
      rw [this]
      rfl
  | d :: t, n, h => by
    obtain ⟨i1, i2, i3, i4⟩ := drop_cons h
    have er : rd_T182 proof (n : Int) = d := i3 _
    have ih := proves_l0 proof hp s e t (n + 1) i2
    have ht : proof.take (n + 1) = proof.take n ++ [d] := by
      rw [List.take_succ_eq_append_getElem i1]
      congr 2
      have := i3 z182
      rw [List.getD_eq_getElem?_getD, List.getElem?_eq_getElem i1] at this
      exact this
    rw [ht] at ih
    rw [prB]
    -- behind the tests on bounds
    have hj : ∀ (bb : Bool), (bb = true → okD rules (proof.take n) d = false) → (bb = false → inD rules d) → Ev (fun k => glossatorref3_Proves.j1 k rules proof s e (n : Int) proof (proof.length : Int) (n : Int) bb d.f0 d.f1 d.f2) (okD rules (proof.take n) d && prB rules (proof.take n ++ [d]) t && lastD proof s e) := by
      intro bb hb1 hb0
      cases bb with
      | true =>
        rw [hb1 rfl, Bool.false_and, Bool.false_and]
        exact Ev.some' (fun k => by simp only [glossatorref3_Proves.j1]; rw [if_pos trivial])
      | false =>
        have hin := hb0 rfl
        obtain ⟨⟨a1, a2⟩, ⟨a3, a4⟩, ⟨a5, a6⟩⟩ := hin
        obtain ⟨lr, hlr, hrm⟩ := rule_in (hb0 rfl)
        have hsm := (hv.2 lr hlr _ hrm).1
        have hszr := (hs.2 lr hlr).2 _ hrm
        have hbit := shl_bit hsm a5 a6
        have hok : okD rules (proof.take n) d = (bit (ruleOf rules d).f0 d.f2.toNat && (ruleOf rules d).f1.all (fun j => hasD (proof.take n) j d.f2)) := by
          unfold okD
          rw [decide_eq_true (hb0 rfl), Bool.true_and]
        cases hbb : bit (ruleOf rules d).f0 d.f2.toNat with
        | false =>
          rw [hok, hbb, Bool.false_and, Bool.false_and, Bool.false_and]
          refine Ev.some' (fun k => ?_)
          simp only [glossatorref3_Proves.j1]
          rw [if_neg (by simp), if_pos a1, if_pos a2, if_pos a3, if_pos a4, if_pos a5]
          exact if_pos (hbit.2 hbb)
        | true =>
          rw [hok, hbb, Bool.true_and]
          have hl1 := proves_l1 rules hs hv proof hp s e n (by omega) (ruleOf rules d).f1 hszr d.f0 d.f1 d.f2 (R := (ruleOf rules d).f1.all (fun j => hasD (proof.take n) j d.f2) && prB rules (proof.take n ++ [d]) t && lastD proof s e) (ruleOf rules d).f1 0 rfl (fun z => by rw [z, Bool.true_and]; exact ih) (fun z => by rw [z, Bool.false_and, Bool.false_and])
          refine Ev.stepK hl1 (fun k => ?_)
          simp only [glossatorref3_Proves.j1]
          rw [if_neg (by simp), if_pos a1, if_pos a2, if_pos a3, if_pos a4, if_pos a5]
          refine (if_neg (fun z => ?_)).trans rfl
          have := hbit.1 z
          rw [hbb] at this
          cases this
    have hno : ¬ inD rules d → okD rules (proof.take n) d = false := fun z => by unfold okD; rw [decide_eq_false z, Bool.false_and]
    have base : ∀ (bb : Bool) (X : Nat → Option Bool), (∀ k, glossatorref3_Proves.l0 (k + 1) rules proof s e proof (proof.length : Int) (n : Int) = glossatorref3_Proves.j1 k rules proof s e (n : Int) proof (proof.length : Int) (n : Int) bb d.f0 d.f1 d.f2) → (bb = true → okD rules (proof.take n) d = false) → (bb = false → inD rules d) → Ev (fun k => glossatorref3_Proves.l0 k rules proof s e proof (proof.length : Int) (n : Int)) (okD rules (proof.take n) d && prB rules (proof.take n ++ [d]) t && lastD proof s e) :=
      fun bb _ hk h1 h0 => Ev.stepK (hj bb h1 h0) hk
    have K : ∀ k, glossatorref3_Proves.l0 (k + 1) rules proof s e proof (proof.length : Int) (n : Int) = (if d.f0 < 0 then (glossatorref3_Proves.j1 k rules proof s e (n : Int) proof (proof.length : Int) (n : Int) true d.f0 d.f1 d.f2) else (if d.f0 ≥ (rules.length : Int) then (glossatorref3_Proves.j1 k rules proof s e (n : Int) proof (proof.length : Int) (n : Int) true d.f0 d.f1 d.f2) else (if d.f2 < 0 then (glossatorref3_Proves.j1 k rules proof s e (n : Int) proof (proof.length : Int) (n : Int) true d.f0 d.f1 d.f2) else (if d.f2 ≥ 20 then (glossatorref3_Proves.j1 k rules proof s e (n : Int) proof (proof.length : Int) (n : Int) true d.f0 d.f1 d.f2) else (if d.f1 < 0 then (glossatorref3_Proves.j1 k rules proof s e (n : Int) proof (proof.length : Int) (n : Int) true d.f0 d.f1 d.f2) else (if 0 ≤ d.f0 then (if d.f0 < (rules.length : Int) then (glossatorref3_Proves.j1 k rules proof s e (n : Int) proof (proof.length : Int) (n : Int) (decide (d.f1 ≥ ((rd_L3 rules d.f0).length : Int))) d.f0 d.f1 d.f2) else (none)) else (none))))))) := by
      intro k
      rw [glossatorref3_Proves.l0, if_pos (by omega), if_pos (by omega), if_pos (by omega), er]
    by_cases c1 : d.f0 < 0
    · exact base true (fun _ => none) (fun k => by rw [K, if_pos c1]) (fun _ => hno (fun z => by have := z.1.1; omega)) (fun z => by cases z)
    by_cases c2 : d.f0 ≥ (rules.length : Int)
    · exact base true (fun _ => none) (fun k => by rw [K, if_neg c1, if_pos c2]) (fun _ => hno (fun z => by have := z.1.2; omega)) (fun z => by cases z)
    by_cases c3 : d.f2 < 0
    · exact base true (fun _ => none) (fun k => by rw [K, if_neg c1, if_neg c2, if_pos c3]) (fun _ => hno (fun z => by have := z.2.2.1; omega)) (fun z => by cases z)
    by_cases c4 : d.f2 ≥ 20
    · exact base true (fun _ => none) (fun k => by rw [K, if_neg c1, if_neg c2, if_neg c3, if_pos c4]) (fun _ => hno (fun z => by have := z.2.2.2; omega)) (fun z => by cases z)
    by_cases c5 : d.f1 < 0
    · exact base true (fun _ => none) (fun k => by rw [K, if_neg c1, if_neg c2, if_neg c3, if_neg c4, if_pos c5]) (fun _ => hno (fun z => by have := z.2.1.1; omega)) (fun z => by cases z)
    · refine base (decide (d.f1 ≥ ((rd_L3 rules d.f0).length : Int))) (fun _ => none) (fun k => by rw [K, if_neg c1, if_neg c2, if_neg c3, if_neg c4, if_neg c5, if_pos (by omega), if_pos (by omega)]) (fun z => ?_) (fun z => ?_)
      · have := of_decide_eq_true z
        exact hno (fun y => by have := y.2.1.2; omega)
      · have := of_decide_eq_false z
        exact ⟨⟨by omega, by omega⟩, ⟨by omega, by omega⟩, ⟨by omega, by omega⟩⟩
theorem proves_ev (proof : List S182) (hp : proof.length ≤ 140737488355328) (s e : Int) : Ev (fun k => glossatorref3_Proves.f k rules proof s e) (provesV rules proof s e) := proves_l0 rules hs hv proof hp s e proof 0 rfl
/-! The program's validStep and Verify. -/
theorem step1_ev (q : S182) (j d0 d1 d2 : Int) : fixpoint_validStep_1_1.f q.f0 q.f1 q.f2 j d0 d1 d2 = some (decide (q.f0 = j) && decide (q.f2 = d2)) := by
  unfold fixpoint_validStep_1_1.f
  by_cases c : q.f0 = j
  · rw [if_pos c, decide_eq_true c, Bool.true_and]; rfl
  · rw [if_neg c, decide_eq_false c, Bool.false_and]
theorem has_l0 (Y : List S182) (hY : Y.length ≤ 140737488355328) (j d0 d1 d2 : Int) : ∀ (t : List S182) (i : Nat), Y.drop i = t → ∃ r, Ev (fun k => slices_IndexFunc_105_at_181_3_182.l0 k Y (Y.length : Int) (i : Int) j d0 d1 d2) r ∧ decide (r ≥ 0) = hasD t j d2
  | [], i, h => by
    have := drop_nil h
    exact ⟨-1, Ev.some' (fun k => by simp only [slices_IndexFunc_105_at_181_3_182.l0]; rw [if_neg (by omega)]), rfl⟩
  | x :: t, i, h => by
    obtain ⟨h1, h2, h3, _⟩ := drop_cons h
    have e : rd_T182 Y (i : Int) = x := h3 _
    by_cases c : (decide (x.f0 = j) && decide (x.f2 = d2)) = true
    · refine ⟨(i : Int), Ev.some' (fun k => ?_), ?_⟩
      · simp only [slices_IndexFunc_105_at_181_3_182.l0]
        rw [if_pos (by omega), if_pos (by omega), if_pos (by omega), e, step1_ev rules hs hv, Option.bind_some, if_pos c]
      · unfold hasD
        rw [List.any_cons, c]
        simp
    · obtain ⟨r, ih, hr⟩ := has_l0 Y hY j d0 d1 d2 t (i + 1) h2
      refine ⟨r, Ev.stepK ih (fun k => ?_), ?_⟩
      · simp only [slices_IndexFunc_105_at_181_3_182.l0]
        rw [if_pos (by omega), if_pos (by omega), if_pos (by omega), e, step1_ev rules hs hv, Option.bind_some, if_neg c, wrap_id (n := (i : Int) + 1) (by omega) (by omega)]
        rfl
      · rw [hr]
        unfold hasD
        rw [List.any_cons, (by simpa using c : (decide (x.f0 = j) && decide (x.f2 = d2)) = false), Bool.false_or]
theorem has_ev (Y : List S182) (hY : Y.length ≤ 140737488355328) (j d0 d1 d2 : Int) : Ev (fun k => slices_ContainsFunc_180_at_181_3_182.f k Y j d0 d1 d2) (hasD Y j d2) := by
  obtain ⟨r, h, hr⟩ := has_l0 rules hs hv Y hY j d0 d1 d2 Y 0 rfl
  rw [← hr]
  exact Ev.bind h (Ev.now _)
theorem missing_ev (proof : List S182) (hp : proof.length ≤ 140737488355328) (n : Nat) (hn : n ≤ proof.length) (j d0 d1 d2 : Int) : Ev (fun k => fixpoint_validStep_1.f k j proof (n : Int) d0 d1 d2) (!hasD (proof.take n) j d2) := by
  unfold fixpoint_validStep_1.f
  refine Ev.pos (by omega) (Ev.pos (by omega) ?_)
  rw [Int.toNat_natCast]
  exact Ev.bind (has_ev rules hs hv (proof.take n) (by rw [List.length_take]; omega) j d0 d1 d2) (Ev.now _)
theorem all_l0 (proof : List S182) (hp : proof.length ≤ 140737488355328) (n : Nat) (hn : n ≤ proof.length) (xs : List Int) (hx : xs.length ≤ 140737488355328) (d0 d1 d2 : Int) : ∀ (t : List Int) (i : Nat), xs.drop i = t → ∃ r, Ev (fun k => slices_IndexFunc_217_at_179_69_3_182.l0 k xs (xs.length : Int) (i : Int) proof (n : Int) d0 d1 d2) r ∧ decide (r ≥ 0) = !t.all (fun j => hasD (proof.take n) j d2)
  | [], i, h => by
    have := drop_nil h
    exact ⟨-1, Ev.some' (fun k => by simp only [slices_IndexFunc_217_at_179_69_3_182.l0]; rw [if_neg (by omega)]), rfl⟩
  | x :: t, i, h => by
    obtain ⟨h1, h2, h3, _⟩ := drop_cons h
    have e : rd xs (i : Int) = x := h3 _
    have hm := missing_ev rules hs hv proof hp n hn x d0 d1 d2
    cases c : hasD (proof.take n) x d2 with
    | false =>
      rw [c] at hm
      refine ⟨(i : Int), Ev.stepK (Ev.bind hm (f := fun k t298 => if t298 = true then some (i : Int) else slices_IndexFunc_217_at_179_69_3_182.l0 k xs (xs.length : Int) (wrap64 ((i : Int) + 1)) proof (n : Int) d0 d1 d2) (Ev.pos rfl (Ev.now _))) (fun k => ?_), ?_⟩
      · simp only [slices_IndexFunc_217_at_179_69_3_182.l0]
        rw [if_pos (by omega), if_pos (by omega), if_pos (by omega), e]
      · rw [List.all_cons, c]
        simp
    | true =>
      rw [c] at hm
      obtain ⟨r, ih, hr⟩ := all_l0 proof hp n hn xs hx d0 d1 d2 t (i + 1) h2
      refine ⟨r, Ev.stepK (Ev.bind hm (f := fun k t298 => if t298 = true then some (i : Int) else slices_IndexFunc_217_at_179_69_3_182.l0 k xs (xs.length : Int) (wrap64 ((i : Int) + 1)) proof (n : Int) d0 d1 d2) (Ev.neg (by simp) ?_)) (fun k => ?_), ?_⟩
      · rw [wrap_id (n := (i : Int) + 1) (by omega) (by omega)]
        exact ih
      · simp only [slices_IndexFunc_217_at_179_69_3_182.l0]
        rw [if_pos (by omega), if_pos (by omega), if_pos (by omega), e]
      · rw [hr, List.all_cons, c, Bool.true_and]
theorem all_ev (proof : List S182) (hp : proof.length ≤ 140737488355328) (n : Nat) (hn : n ≤ proof.length) (xs : List Int) (hx : xs.length ≤ 140737488355328) (d0 d1 d2 : Int) : Ev (fun k => slices_ContainsFunc_172_at_179_69_3_182.f k xs proof (n : Int) d0 d1 d2) (!xs.all (fun j => hasD (proof.take n) j d2)) := by
  obtain ⟨r, h, hr⟩ := all_l0 rules hs hv proof hp n hn xs hx d0 d1 d2 xs 0 rfl
  rw [← hr]
  exact Ev.bind h (Ev.now _)
theorem valid_ev (proof : List S182) (hp : proof.length ≤ 140737488355328) (n : Nat) (d : S182) (t : List S182) (h : proof.drop n = d :: t) : Ev (fun k => fixpoint_validStep.f k rules proof (n : Int)) (okD rules (proof.take n) d) := by
  obtain ⟨i1, i2, i3, i4⟩ := drop_cons h
  have er : rd_T182 proof (n : Int) = d := i3 _
  have hno : ¬ inD rules d → okD rules (proof.take n) d = false := fun z => by unfold okD; rw [decide_eq_false z, Bool.false_and]
  unfold fixpoint_validStep.f
  rw [er]
  refine Ev.pos (by omega) (Ev.pos (by omega) ?_)
  unfold vsP
  by_cases c1 : d.f0 < 0
  · rw [hno (fun z => by have := z.1.1; omega)]; exact Ev.pos c1 (Ev.now _)
  refine Ev.neg c1 ?_
  by_cases c2 : d.f0 ≥ (rules.length : Int)
  · rw [hno (fun z => by have := z.1.2; omega)]; exact Ev.pos c2 (Ev.now _)
  refine Ev.neg c2 ?_
  by_cases c5 : d.f1 < 0
  · rw [hno (fun z => by have := z.2.1.1; omega)]; exact Ev.pos c5 (Ev.now _)
  refine Ev.neg c5 ?_
  by_cases c6 : d.f1 ≥ ((rd_L3 rules d.f0).length : Int)
  · rw [hno (fun z => by have := z.2.1.2; omega)]; exact Ev.pos c6 (Ev.now _)
  refine Ev.neg c6 ?_
  by_cases c3 : d.f2 < 0
  · rw [hno (fun z => by have := z.2.2.1; omega)]; exact Ev.pos c3 (Ev.now _)
  refine Ev.neg c3 ?_
  by_cases c4 : d.f2 ≥ 20
  · rw [hno (fun z => by have := z.2.2.2; omega)]; exact Ev.pos c4 (Ev.now _)
  refine Ev.neg c4 ?_
  have hin : inD rules d := ⟨⟨by omega, by omega⟩, ⟨by omega, by omega⟩, ⟨by omega, by omega⟩⟩
  obtain ⟨lr, hlr, hrm⟩ := rule_in hin
  have hsm := (hv.2 lr hlr _ hrm).1
  have hszr := (hs.2 lr hlr).2 _ hrm
  have hbit := shr_bit hsm (show 0 ≤ d.f2 by omega) (by omega)
  have hok : okD rules (proof.take n) d = (bit (ruleOf rules d).f0 d.f2.toNat && (ruleOf rules d).f1.all (fun j => hasD (proof.take n) j d.f2)) := by
    unfold okD
    rw [decide_eq_true hin, Bool.true_and]
  rw [hok]
  cases hbb : bit (ruleOf rules d).f0 d.f2.toNat with
  | false =>
    rw [Bool.false_and]
    refine Ev.neg (fun z => ?_) (Ev.now _)
    have := hbit.1 z
    rw [hbb] at this
    cases this
  | true =>
    refine Ev.pos (hbit.2 hbb) (Ev.bind (all_ev rules hs hv proof hp n (by omega) (ruleOf rules d).f1 hszr d.f0 d.f1 d.f2) ?_)
    rw [Bool.not_not, Bool.true_and]
    exact Ev.now _
theorem verify_l0 (proof : List S182) (hp : proof.length ≤ 140737488355328) (hne : 0 < proof.length) (s e : Int) : ∀ (t : List S182) (n : Nat), proof.drop n = t → Ev (fun k => fixpoint_Verify.l0 k rules proof s e (proof.length : Int) (n : Int)) (prB rules (proof.take n) t && lastD proof s e)
  | [], n, h => by
    have := drop_nil h
    refine Ev.some' (fun k => ?_)
    simp only [fixpoint_Verify.l0]
    rw [if_neg (by omega), prB, Bool.true_and]
    exact last_ev proof s e hp hne
  | d :: t, n, h => by
    obtain ⟨i1, i2, i3, i4⟩ := drop_cons h
    have ih := verify_l0 proof hp hne s e t (n + 1) i2
    have ht : proof.take (n + 1) = proof.take n ++ [d] := by
      rw [List.take_succ_eq_append_getElem i1]
      congr 2
      have := i3 z182
      rw [List.getD_eq_getElem?_getD, List.getElem?_eq_getElem i1] at this
      exact this
    rw [ht] at ih
    rw [prB]
    have hvs := valid_ev rules hs hv proof hp n d t h
    refine Ev.stepK (Ev.bind hvs (f := fun k t310 => if t310 = true then fixpoint_Verify.l0 k rules proof s e (proof.length : Int) (wrap64 ((n : Int) + 1)) else some false) ?_) (fun k => ?_)
    · cases okD rules (proof.take n) d with
      | false => rw [Bool.false_and, Bool.false_and]; exact Ev.neg (by simp) (Ev.now _)
      | true =>
        rw [Bool.true_and, wrap_id (n := (n : Int) + 1) (by omega) (by omega)]
        exact Ev.pos rfl ih
    · simp only [fixpoint_Verify.l0]
      rw [if_pos (by omega)]
theorem verify_ev (hc : chk rules = 0) (proof : List S182) (hp : proof.length ≤ 140737488355328) (s e : Int) : Ev (fun k => fixpoint_Verify.f k rules proof s e) (provesV rules proof s e) := by
  unfold fixpoint_Verify.f
  have hk := check_ev rules hs
  rw [hc] at hk
  refine Ev.bind hk (Ev.pos rfl ?_)
  by_cases c : proof.length = 0
  · have : proof = [] := List.eq_nil_iff_length_eq_zero.2 c
    subst this
    exact Ev.some' (fun k => by simp only [fixpoint_Verify.j0]; rfl)
  · refine Ev.stepK (verify_l0 rules hs hv proof hp (by omega) s e proof 0 rfl) (fun k => ?_)
    simp only [fixpoint_Verify.j0]
    rw [if_neg (by simp; intro h; exact c (by rw [h]; rfl))]
    rfl
end
theorem verify_bad (rules : List (List S58)) (hs : Sized rules) (hc : chk rules ≠ 0) (proof : List S182) (s e : Int) : Ev (fun k => fixpoint_Verify.f k rules proof s e) false := by
  unfold fixpoint_Verify.f
  exact Ev.bind (check_ev rules hs) (Ev.neg hc (Ev.some' (fun k => by simp only [fixpoint_Verify.j0]; rw [if_pos trivial])))
end Go.Proofs.Ytglckkkjfcomlaa.PrFixpointProofs
