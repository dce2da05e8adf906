/-
  What derivations and Derive find: the steps are valid and complete; what is kept of them going backwards is a proof.
-/
import Derived.Test.YtglckkkjfcomlaaPxFixpointProofs
namespace Go.Proofs.Ytglckkkjfcomlaa.PrFixpointProofs
open Go.RowKit Go.Proofs.YtglckkkjfcomlaaW.PrintWords Go.Proofs.YtglckkkjfcomlaaW.PrintLast Go.Proofs.YtglckkkjfcomlaaW.PrintMore Go.Proofs.Ytglckkkjfcomlaa.QFixpointProofs Go.Proofs.Ytglckkkjfcomlaa.Aid Go.Proofs.Ytglckkkjfcomlaa.FixMath
set_option linter.unusedSimpArgs false
set_option linter.unusedVariables false
set_option linter.unusedSectionVars false

def inDs (ds : List S182) (j : Int) : Bool := ds.any (fun q => decide (q.f0 = j))
theorem all_cong {α : Type} {p q : α → Bool} : ∀ (l : List α), (∀ x ∈ l, p x = q x) → l.all p = l.all q
  | [], _ => rfl
  | x :: l, h => by rw [List.all_cons, List.all_cons, h x (List.mem_cons_self ..), all_cong l (fun y hy => h y (List.mem_cons_of_mem _ hy))]
theorem hasD_in {ds : List S182} {el : Int} (h : ∀ d ∈ ds, d.f2 = el) (j : Int) : hasD ds j el = inDs ds j := by
  induction ds with
  | nil => rfl
  | cons d t ih =>
    have h1 := h d (List.mem_cons_self ..)
    have h2 := ih (fun x hx => h x (List.mem_cons_of_mem _ hx))
    unfold hasD inDs at *
    rw [List.any_cons, List.any_cons, h2, decide_eq_true h1, Bool.and_true]
theorem inDs_mem {ds : List S182} {j : Int} : inDs ds j = true ↔ ∃ d ∈ ds, d.f0 = j := by
  unfold inDs
  simp
theorem hasD_mem {ds : List S182} {j e : Int} : hasD ds j e = true ↔ ∃ d ∈ ds, d.f0 = j ∧ d.f2 = e := by
  unfold hasD
  simp
theorem prB_snoc (rules : List (List S58)) : ∀ (xs pre : List S182) (d : S182), prB rules pre (xs ++ [d]) = (prB rules pre xs && okD rules (pre ++ xs) d)
  | [], pre, d => by simp [prB]
  | x :: xs, pre, d => by
    rw [List.cons_append, prB, prB, prB_snoc rules xs (pre ++ [x]) d, List.append_assoc, Bool.and_assoc]
    rfl
/-- A list of steps for one element, so far. -/
structure DGood (rules : List (List S58)) (el : Int) (ds : List S182) : Prop where
  el : ∀ d ∈ ds, d.f2 = el
  pr : prB rules [] ds = true
  nd : (ds.map (fun d => d.f0)).Nodup
  rg : ∀ d ∈ ds, 0 ≤ d.f0 ∧ d.f0 < (rules.length : Int)
def Closed (rules : List (List S58)) (el : Int) (ds : List S182) (i : Nat) : Prop := ∀ q : Nat, q < i → ∀ r ∈ rd_L3 rules (q : Int), bit r.f0 el.toNat = true → (∀ j ∈ r.f1, inDs ds j = true) → inDs ds (q : Int) = true
def DD (n : Nat) (dd : List Bool) (ds : List S182) : Prop := dd.length = n ∧ ∀ j : Int, 0 ≤ j → j < n → rdOf false dd j = inDs ds j
theorem DGood.len {rules : List (List S58)} {el : Int} {ds : List S182} (h : DGood rules el ds) : ds.length ≤ rules.length := by
  have := short rules.length (ds.map (fun d => d.f0)) h.nd (fun x hx => by obtain ⟨d, hd, rfl⟩ := List.mem_map.1 hx; exact h.rg d hd)
  simpa using this
def applies (dd : List Bool) (el : Int) (r : S58) : Bool := bit r.f0 el.toNat && r.f1.all (fun j => rdOf false dd j)
theorem notd_ev (j : Int) (dd : List Bool) (h0 : 0 ≤ j) (h1 : j < (dd.length : Int)) : fixpoint_derivations_1_1.f j dd = some (!(rdOf false dd j)) := by
  unfold fixpoint_derivations_1_1.f
  rw [if_pos h0, if_pos h1]
theorem und_l0 (dd : List Bool) (xs : List Int) (hx : xs.length ≤ 140737488355328) (hj : ∀ j ∈ xs, 0 ≤ j ∧ j < (dd.length : Int)) : ∀ (t : List Int) (i : Nat), xs.drop i = t → ∃ r, Ev (fun k => slices_IndexFunc_217_at_176_184.l0 k xs (xs.length : Int) (i : Int) dd) r ∧ decide (r ≥ 0) = !t.all (fun j => rdOf false dd j)
  | [], i, h => by
    have := drop_nil h
    exact ⟨-1, Ev.some' (fun k => by simp only [slices_IndexFunc_217_at_176_184.l0]; rw [if_neg (by omega)]), rfl⟩
  | x :: t, i, h => by
    obtain ⟨h1, h2, h3, h4⟩ := drop_cons h
    have e : rd xs (i : Int) = x := h3 _
    have hm := notd_ev x dd (hj x h4).1 (hj x h4).2
    cases c : rdOf false dd x with
    | false =>
      refine ⟨(i : Int), Ev.some' (fun k => ?_), ?_⟩
      · simp only [slices_IndexFunc_217_at_176_184.l0]
        rw [if_pos (by omega), if_pos (by omega), if_pos (by omega), e, hm, c]
        rfl
      · rw [List.all_cons, c]
        simp
    | true =>
      obtain ⟨r, ih, hr⟩ := und_l0 dd xs hx hj t (i + 1) h2
      refine ⟨r, Ev.stepK ih (fun k => ?_), ?_⟩
      · simp only [slices_IndexFunc_217_at_176_184.l0]
        rw [if_pos (by omega), if_pos (by omega), if_pos (by omega), e, hm, c, wrap_id (n := (i : Int) + 1) (by omega) (by omega)]
        rfl
      · rw [hr, List.all_cons, c, Bool.true_and]
theorem und_ev (dd : List Bool) (xs : List Int) (hx : xs.length ≤ 140737488355328) (hj : ∀ j ∈ xs, 0 ≤ j ∧ j < (dd.length : Int)) : Ev (fun k => slices_ContainsFunc_172_at_176_184.f k xs dd) (!xs.all (fun j => rdOf false dd j)) := by
  obtain ⟨r, h, hr⟩ := und_l0 dd xs hx hj xs 0 rfl
  rw [← hr]
  exact Ev.bind h (Ev.now _)
theorem applies_ev (dd : List Bool) (el : Int) (r : S58) (hr : small r.f0) (h0 : 0 ≤ el) (h1 : el < 20) (hx : r.f1.length ≤ 140737488355328) (hj : ∀ j ∈ r.f1, 0 ≤ j ∧ j < (dd.length : Int)) : Ev (fun k => fixpoint_derivations_1.f k r.f0 r.f1 el dd) (applies dd el r) := by
  unfold fixpoint_derivations_1.f applies
  have hb := shr_bit hr h0 h1
  refine Ev.pos h0 ?_
  cases c : bit r.f0 el.toNat with
  | true =>
    refine Ev.pos (hb.2 c) (Ev.bind (und_ev dd r.f1 hx hj) ?_)
    rw [Bool.not_not, Bool.true_and]
    exact Ev.now _
  | false =>
    rw [Bool.false_and]
    refine Ev.neg (fun z => ?_) (Ev.now _)
    have := hb.1 z
    rw [c] at this
    cases this
theorem find_l0 (dd : List Bool) (el : Int) (xs : List S58) (hx : xs.length ≤ 140737488355328) (h0 : 0 ≤ el) (h1 : el < 20) (hall : ∀ r ∈ xs, small r.f0 ∧ r.f1.length ≤ 140737488355328 ∧ ∀ j ∈ r.f1, 0 ≤ j ∧ j < (dd.length : Int)) : ∀ (t : List S58) (i : Nat), xs.drop i = t → ∃ r, Ev (fun k => slices_IndexFunc_177_at_175_3_184.l0 k xs (xs.length : Int) (i : Int) el dd) r ∧ (0 ≤ r ∧ r < (xs.length : Int) ∧ applies dd el (rd_T58 xs r) = true ∨ r < 0 ∧ ∀ x ∈ t, applies dd el x = false)
  | [], i, h => by
    have := drop_nil h
    exact ⟨-1, Ev.some' (fun k => by simp only [slices_IndexFunc_177_at_175_3_184.l0]; rw [if_neg (by omega)]), .inr ⟨by omega, fun x hx => by cases hx⟩⟩
  | x :: t, i, h => by
    obtain ⟨g1, g2, g3, g4⟩ := drop_cons h
    have e : rd_T58 xs (i : Int) = x := g3 _
    have ha := hall x g4
    have hm := applies_ev dd el x ha.1 h0 h1 ha.2.1 ha.2.2
    cases c : applies dd el x with
    | true =>
      rw [c] at hm
      refine ⟨(i : Int), Ev.stepK (Ev.bind hm (f := fun k t => if t = true then some (i : Int) else slices_IndexFunc_177_at_175_3_184.l0 k xs (xs.length : Int) (wrap64 ((i : Int) + 1)) el dd) (Ev.pos rfl (Ev.now _))) (fun k => ?_), .inl ⟨by omega, by omega, by rw [e]; exact c⟩⟩
      simp only [slices_IndexFunc_177_at_175_3_184.l0]
      rw [if_pos (by omega), if_pos (by omega), if_pos (by omega), e]
    | false =>
      rw [c] at hm
      obtain ⟨r, ih, hr⟩ := find_l0 dd el xs hx h0 h1 hall t (i + 1) g2
      refine ⟨r, Ev.stepK (Ev.bind hm (f := fun k t => if t = true then some (i : Int) else slices_IndexFunc_177_at_175_3_184.l0 k xs (xs.length : Int) (wrap64 ((i : Int) + 1)) el dd) (Ev.neg (by simp) ?_)) (fun k => ?_), ?_⟩
      · rw [wrap_id (n := (i : Int) + 1) (by omega) (by omega)]
        exact ih
      · simp only [slices_IndexFunc_177_at_175_3_184.l0]
        rw [if_pos (by omega), if_pos (by omega), if_pos (by omega), e]
      · rcases hr with hr | ⟨hr1, hr2⟩
        · exact .inl hr
        · refine .inr ⟨hr1, fun y hy => ?_⟩
          rcases List.mem_cons.1 hy with rfl | hy
          · exact c
          · exact hr2 y hy
section
variable (rules : List (List S58)) (hs : Sized rules) (hv : Vd rules) (el : Int) (h0 : 0 ≤ el) (h1 : el < 20)
include hs hv h0 h1
def Fin (rules : List (List S58)) (el : Int) (R : List S182) : Prop := DGood rules el R ∧ Closed rules el R rules.length
theorem der_l1 (n0 : Nat) (hIH : ∀ (ds : List S182) (dd : List Bool), DGood rules el ds → DD rules.length dd ds → n0 < ds.length → ∃ R, Ev (fun k => fixpoint_derivations.l0 k rules ds true el dd) R ∧ Fin rules el R) :
    ∀ (t : List (List S58)) (i : Nat) (ds : List S182) (dd : List Bool) (b : Bool), rules.drop i = t → DGood rules el ds → DD rules.length dd ds → n0 ≤ ds.length → (b = true → n0 < ds.length) → (b = false → Closed rules el ds i) → ∃ R, Ev (fun k => fixpoint_derivations.l1 k rules ds b rules (rules.length : Int) (i : Int) el dd) R ∧ Fin rules el R
  | [], i, ds, dd, b, h, g, hd, hn, hb, hc => by
    have hi := drop_nil h
    cases b with
    | true =>
      obtain ⟨R, e, f⟩ := hIH ds dd g hd (hb rfl)
      refine ⟨R, Ev.stepK e (fun k => ?_), f⟩
      simp only [fixpoint_derivations.l1]
      rw [if_neg (by omega)]
    | false =>
      refine ⟨ds, Ev.stepK (f := fun k => fixpoint_derivations.l0 k rules ds false el dd) (Ev.some' (fun k => ?_)) (fun k => ?_), g, fun q hq => hc rfl q (by omega)⟩
      · simp only [fixpoint_derivations.l0]
        rw [if_neg (by simp)]
      · simp only [fixpoint_derivations.l1]
        rw [if_neg (by omega)]
  | row :: t, i, ds, dd, b, h, g, hd, hn, hb, hc => by
    obtain ⟨g1, g2, g3, g4⟩ := drop_cons h
    have er : rd_L3 rules (i : Int) = row := g3 _
    have h60 := hv.1
    have hdl := hd.1
    have hdi := hd.2 (i : Int) (by omega) (by omega)
    have ih := der_l1 n0 hIH t (i + 1)
    have w1 : wrap64 ((i : Int) + 1) = ((i + 1 : Nat) : Int) := wrap_id (n := (i : Int) + 1) (by omega) (by omega)
    have hall : ∀ r ∈ row, small r.f0 ∧ r.f1.length ≤ 140737488355328 ∧ ∀ j ∈ r.f1, 0 ≤ j ∧ j < (dd.length : Int) := fun r hr => ⟨(hv.2 row g4 r hr).1, (hs.2 row g4).2 r hr, by rw [hdl]; exact (hv.2 row g4 r hr).2⟩
    have hap : ∀ r ∈ row, applies dd el r = (bit r.f0 el.toNat && r.f1.all (fun j => inDs ds j)) := by
      intro r hr
      unfold applies
      congr 1
      refine all_cong _ (fun j hj => ?_)
      have := (hv.2 row g4 r hr).2 j hj
      exact hd.2 j this.1 this.2
    cases c : rdOf false dd (i : Int) with
    | true =>
      obtain ⟨R, e, f⟩ := ih ds dd b g2 g hd hn hb (fun z q hq => by
        by_cases c2 : q = i
        · subst c2
          intro r _ _ _
          rw [← hdi]
          exact c
        · exact hc z q (by omega))
      refine ⟨R, Ev.stepK e (fun k => ?_), f⟩
      simp only [fixpoint_derivations.l1]
      rw [if_pos (by omega), if_pos (by omega), if_pos (by omega), if_pos (by omega), if_pos c, w1]
    | false =>
      obtain ⟨r, hfe, hr⟩ := find_l0 dd el row (hs.2 row g4).1 h0 h1 hall row 0 rfl
      have K : ∀ k, fixpoint_derivations.l1 (k + 1) rules ds b rules (rules.length : Int) (i : Int) el dd = (slices_IndexFunc_177_at_175_3_184.f k row el dd).bind fun t243 => (if t243 ≥ 0 then (if ds.length < 5864062014805 then (fixpoint_derivations.l1 k rules (ds ++ [(⟨(i : Int), t243, el⟩ : S182)]) true rules (rules.length : Int) ((i + 1 : Nat) : Int) el (dd.set (i : Int).toNat true)) else none) else (fixpoint_derivations.l1 k rules ds b rules (rules.length : Int) ((i + 1 : Nat) : Int) el dd)) := by
        intro k
        simp only [fixpoint_derivations.l1]
        rw [if_pos (by omega), if_pos (by omega), if_pos (by omega), if_pos (by omega), if_neg (by rw [c]; simp), er, w1]
      have hstep : ∀ {Y : List S182}, Ev (fun k => (slices_IndexFunc_177_at_175_3_184.f k row el dd).bind fun t243 => (if t243 ≥ 0 then (if ds.length < 5864062014805 then (fixpoint_derivations.l1 k rules (ds ++ [(⟨(i : Int), t243, el⟩ : S182)]) true rules (rules.length : Int) ((i + 1 : Nat) : Int) el (dd.set (i : Int).toNat true)) else none) else (fixpoint_derivations.l1 k rules ds b rules (rules.length : Int) ((i + 1 : Nat) : Int) el dd))) Y → Ev (fun k => fixpoint_derivations.l1 k rules ds b rules (rules.length : Int) (i : Int) el dd) Y := fun h => Ev.stepK h K
      have hfe' : Ev (fun k => slices_IndexFunc_177_at_175_3_184.f k row el dd) r := hfe
      rcases hr with ⟨r1, r2, r3⟩ | ⟨r1, r2⟩
      · -- a rule that applies
        have hlen := g.len
        have hmem := rdT_mem r1 r2
        rw [hap _ hmem, Bool.and_eq_true] at r3
        have hok : okD rules ds ⟨(i : Int), r, el⟩ = true := by
          have hin : inD rules ⟨(i : Int), r, el⟩ := ⟨⟨by show (0 : Int) ≤ i; omega, by show (i : Int) < _; omega⟩, ⟨r1, by show r < ((rd_L3 rules (i : Int)).length : Int); rw [er]; exact r2⟩, ⟨h0, h1⟩⟩
          unfold okD
          rw [decide_eq_true hin, Bool.true_and]
          have e2 : ruleOf rules ⟨(i : Int), r, el⟩ = rd_T58 row r := by unfold ruleOf; rw [show rd_L3 rules ((⟨(i : Int), r, el⟩ : S182).f0) = row from er]
          rw [e2, r3.1, Bool.true_and]
          refine List.all_eq_true.2 (fun j hj => ?_)
          rw [hasD_in g.el j]
          exact List.all_eq_true.1 r3.2 j hj
        have hni : ∀ d ∈ ds, d.f0 ≠ (i : Int) := fun d hdm e => by
          have : inDs ds (i : Int) = true := inDs_mem.2 ⟨d, hdm, e⟩
          rw [← hdi, c] at this
          cases this
        have g' : DGood rules el (ds ++ [⟨(i : Int), r, el⟩]) := by
          refine ⟨fun d hdm => ?_, ?_, ?_, fun d hdm => ?_⟩
          · rcases List.mem_append.1 hdm with hdm | hdm
            · exact g.el d hdm
            · rw [List.mem_singleton.1 hdm]
          · rw [prB_snoc, g.pr, List.nil_append, hok]; rfl
          · rw [List.map_append, List.map_singleton]
            exact nodup_snoc g.nd (fun hm => by obtain ⟨d, hdm, e⟩ := List.mem_map.1 hm; exact hni d hdm e)
          · rcases List.mem_append.1 hdm with hdm | hdm
            · exact g.rg d hdm
            · rw [List.mem_singleton.1 hdm]; exact ⟨by show (0 : Int) ≤ i; omega, by show (i : Int) < _; omega⟩
        have hd' : DD rules.length (dd.set (i : Int).toNat true) (ds ++ [⟨(i : Int), r, el⟩]) := by
          refine ⟨by rw [List.length_set]; exact hdl, fun j hj0 hj1 => ?_⟩
          have hd2 := hd.2 j hj0 hj1
          unfold rdOf at hd2 ⊢
          unfold inDs at hd2 ⊢
          rw [List.any_append]
          by_cases c2 : j = (i : Int)
          · subst c2
            rw [List.getD_eq_getElem?_getD, List.getElem?_set_self (by omega)]
            simp
          · rw [List.getD_eq_getElem?_getD, List.getElem?_set_ne (by omega), ← List.getD_eq_getElem?_getD, hd2]
            have : decide ((i : Int) = j) = false := decide_eq_false (fun z => c2 z.symm)
            simp [this]
        obtain ⟨R, e, f⟩ := ih (ds ++ [⟨(i : Int), r, el⟩]) (dd.set (i : Int).toNat true) true g2 g' hd' (by rw [List.length_append]; omega) (fun _ => by rw [List.length_append, List.length_singleton]; omega) (fun z => by cases z)
        exact ⟨R, hstep (Ev.bind hfe' (Ev.pos r1 (Ev.pos (by omega) e))), f⟩
      · obtain ⟨R, e, f⟩ := ih ds dd b g2 g hd hn hb (fun z q hq => by
          by_cases c2 : q = i
          · subst c2
            intro r' hr' hb' hj'
            rw [er] at hr'
            have := r2 r' hr'
            rw [hap r' hr', hb', Bool.true_and, List.all_eq_true.2 hj'] at this
            cases this
          · exact hc z q (by omega))
        exact ⟨R, hstep (Ev.bind hfe' (Ev.neg (by omega) e)), f⟩
theorem der_l0 : ∀ (M : Nat) (ds : List S182) (dd : List Bool), DGood rules el ds → DD rules.length dd ds → rules.length ≤ ds.length + M → ∃ R, Ev (fun k => fixpoint_derivations.l0 k rules ds true el dd) R ∧ Fin rules el R := by
  intro M
  induction M with
  | zero =>
    intro ds dd g hd hM
    obtain ⟨R, e, f⟩ := der_l1 rules hs hv el h0 h1 ds.length (fun ds' dd' g' hd' hl => absurd g'.len (by omega)) rules 0 ds dd false rfl g hd (Nat.le_refl _) (fun z => by cases z) (fun _ q hq => absurd hq (by omega))
    refine ⟨R, Ev.stepK e (fun k => ?_), f⟩
    simp only [fixpoint_derivations.l0]
    rw [if_pos trivial]
    rfl
  | succ M ih =>
    intro ds dd g hd hM
    obtain ⟨R, e, f⟩ := der_l1 rules hs hv el h0 h1 ds.length (fun ds' dd' g' hd' hl => ih ds' dd' g' hd' (by omega)) rules 0 ds dd false rfl g hd (Nat.le_refl _) (fun z => by cases z) (fun _ q hq => absurd hq (by omega))
    refine ⟨R, Ev.stepK e (fun k => ?_), f⟩
    simp only [fixpoint_derivations.l0]
    rw [if_pos trivial]
    rfl
theorem der_ev : ∃ R, Ev (fun k => fixpoint_derivations.f k rules el) R ∧ Fin rules el R := by
  have h60 := hv.1
  obtain ⟨R, e, f⟩ := der_l0 rules hs hv el h0 h1 rules.length [] (List.replicate rules.length false) ⟨fun d hd => (by cases hd), rfl, List.nodup_nil, fun d hd => (by cases hd)⟩ ⟨by simp, fun j hj0 hj1 => by unfold rdOf inDs; rw [List.getD_eq_getElem?_getD, List.getElem?_replicate]; split <;> rfl⟩ (by omega)
  refine ⟨R, ?_, f⟩
  unfold fixpoint_derivations.f
  refine Ev.pos (by omega) (Ev.pos (by omega) ?_)
  rw [Int.toNat_natCast]
  exact e
end
/-! Sound and complete. -/
theorem sound_of (rules : List (List S58)) (hv : Vd rules) {M : Nat} (hM : chn rules (M + 1) = chn rules M) : ∀ (ds pre : List S182), prB rules pre ds = true → (∀ d ∈ pre, bit (rd (chn rules M) d.f0) d.f2.toNat = true) → ∀ d ∈ ds, bit (rd (chn rules M) d.f0) d.f2.toNat = true
  | [], pre, _, _, d, hd => by cases hd
  | x :: t, pre, h, hp, d, hd => by
    rw [prB, Bool.and_eq_true] at h
    have hx : bit (rd (chn rules M) x.f0) x.f2.toNat = true := by
      have hok := h.1
      unfold okD at hok
      rw [Bool.and_eq_true, Bool.and_eq_true] at hok
      have hin := of_decide_eq_true hok.1
      have e1 : rd (chn rules M) x.f0 = der S58.f0 S58.f1 rules (chn rules M) x.f0 := by
        rw [← rd_F]
        exact congrArg (fun s => rd s x.f0) hM.symm
      rw [e1, (der_bits hv (chain_small hv M) x.f0).2]
      refine ⟨ruleOf rules x, rdT_mem hin.2.1.1 hin.2.1.2, hok.2.1, fun j hj => ?_⟩
      obtain ⟨q, hq, e2, e3⟩ := hasD_mem.1 (List.all_eq_true.1 hok.2.2 j hj)
      rw [← e2, ← e3]
      exact hp q hq
    rcases List.mem_cons.1 hd with rfl | hd
    · exact hx
    · exact sound_of rules hv hM t (pre ++ [x]) h.2 (fun q hq => by rcases List.mem_append.1 hq with hq | hq; exact hp q hq; rw [List.mem_singleton.1 hq]; exact hx) d hd
theorem complete_of (rules : List (List S58)) (hv : Vd rules) {el : Int} {ds : List S182} (hc : Closed rules el ds rules.length) : ∀ (t : Nat) (i : Nat), bit (rd (chn rules t) (i : Int)) el.toNat = true → inDs ds (i : Int) = true
  | 0, i, h => by
    have : rd (chn rules 0) (i : Int) = 0 := rd_zero rules _
    rw [this, bit0] at h
    cases h
  | t + 1, i, h => by
    have e1 : rd (chn rules (t + 1)) (i : Int) = der S58.f0 S58.f1 rules (chn rules t) (i : Int) := rd_F rules _ _
    rw [e1, (der_bits hv (chain_small hv t) (i : Int)).2] at h
    obtain ⟨r, hr, hb, hj⟩ := h
    have hlt : i < rules.length := by
      rcases Nat.lt_or_ge i rules.length with h | h
      · exact h
      · unfold at_ at hr
        rw [Int.toNat_natCast, List.getD_eq_getElem?_getD, List.getElem?_eq_none h] at hr
        simp at hr
    refine hc i hlt r hr hb (fun j hjm => ?_)
    have hjr := (valid_at hv hr).2 j hjm
    have := complete_of rules hv hc t j.toNat (by rw [Int.toNat_of_nonneg hjr.1]; exact hj j hjm)
    rwa [Int.toNat_of_nonneg hjr.1] at this
/-! Reverse. -/
theorem rev_l0 (l : List S182) (hl : l.length ≤ 140737488355328) : ∀ (d i : Nat) (x : List S182), 2 * i + d = l.length + 1 → x.length = l.length → (∀ j, j < l.length → x[j]? = if j < i ∨ l.length ≤ i + j then l[l.length - 1 - j]? else l[j]?) → Ev (fun k => api_QDerivation_108.l0 k x (i : Int) ((l.length : Int) - 1 - i)) l.reverse := by
  intro d
  induction d using Nat.strongRecOn with
  | ind d ihd =>
    intro i x hd hx hj
    by_cases c : (i : Int) < (l.length : Int) - 1 - i
    · have hi : i < l.length := by omega
      have hk : l.length - 1 - i < l.length := by omega
      obtain ⟨m, hm⟩ : ∃ m, m = l.length - 1 - i := ⟨_, rfl⟩
      have e3 : (l.length : Int) - 1 - i = (m : Int) := by omega
      have r1 : rd_T182 x (i : Int) = l[i]'hi := by
        unfold rd_T182
        rw [Int.toNat_natCast, List.getD_eq_getElem?_getD, hj i hi, if_neg (by omega), List.getElem?_eq_getElem hi]
        rfl
      have r2 : rd_T182 x (m : Int) = l[m]'(by omega) := by
        unfold rd_T182
        rw [Int.toNat_natCast, List.getD_eq_getElem?_getD, hj m (by omega), if_neg (by omega), List.getElem?_eq_getElem (by omega)]
        rfl
      have ih := ihd (d - 2) (by omega) (i + 1) ((x.set i (l[m]'(by omega))).set m (l[i]'hi)) (by omega) (by rw [List.length_set, List.length_set]; exact hx) (fun j hjl => ?_)
      · refine Ev.stepK ih (fun k => ?_)
        simp only [api_QDerivation_108.l0]
        rw [if_pos c, e3, if_pos (by omega), if_pos (by omega), if_pos (by omega), if_pos (by omega), r1, r2, Int.toNat_natCast, Int.toNat_natCast, wrap_id (n := (i : Int) + 1) (by omega) (by omega), wrap_id (n := (m : Int) - 1) (by omega) (by omega)]
        rw [show (l.length : Int) - 1 - ((i + 1 : Nat) : Int) = (m : Int) - 1 by omega]
        rfl
      · by_cases c1 : j = m
        · subst c1
          rw [List.getElem?_set_self (by rw [List.length_set]; omega), if_pos (by omega), show l.length - 1 - j = i by omega, List.getElem?_eq_getElem hi]
        · rw [List.getElem?_set_ne (by omega)]
          by_cases c2 : j = i
          · subst c2
            rw [List.getElem?_set_self (by omega), if_pos (by omega), ← hm, List.getElem?_eq_getElem (by omega)]
          · rw [List.getElem?_set_ne (by omega), hj j hjl]
            by_cases c3 : j < i ∨ l.length ≤ i + j
            · rw [if_pos c3, if_pos (by omega)]
            · rw [if_neg c3, if_neg (by omega)]
    · have e : x = l.reverse := by
        refine List.ext_getElem? (fun j => ?_)
        by_cases cj : j < l.length
        · rw [hj j cj, List.getElem?_reverse cj]
          by_cases c3 : j < i ∨ l.length ≤ i + j
          · rw [if_pos c3]
          · rw [if_neg c3, show l.length - 1 - j = j by omega]
        · rw [List.getElem?_eq_none (by omega), List.getElem?_eq_none (by rw [List.length_reverse]; omega)]
      refine Ev.some' (fun k => ?_)
      simp only [api_QDerivation_108.l0]
      rw [if_neg c, e]
theorem rev_ev (l : List S182) (hl : l.length ≤ 140737488355328) : Ev (fun k => api_QDerivation_108.f k l) l.reverse := by
  unfold api_QDerivation_108.f
  have := rev_l0 l hl (l.length + 1) 0 l (by omega) rfl (fun j hj => by rw [if_neg (by omega)])
  rw [wrap_id (n := (l.length : Int) - 1) (by omega) (by omega)]
  have e : (l.length : Int) - 1 - ((0 : Nat) : Int) = (l.length : Int) - 1 := by omega
  rw [e] at this
  exact this
/-! Derive: from the last step backwards. -/
def relB (rules : List (List S58)) (xs : List S182) (N : List Bool) : List S182 → List S182 → Prop
  | _, [] => True
  | u, p :: v => (inD rules p ∧ bit (ruleOf rules p).f0 p.f2.toNat = true ∧ ∀ j ∈ (ruleOf rules p).f1, hasD u j p.f2 = true ∨ (rdOf false N j = true ∧ hasD xs j p.f2 = true)) ∧ relB rules xs N (u ++ [p]) v
theorem relB_end {rules : List (List S58)} {N : List Bool} : ∀ {v u : List S182}, relB rules [] N u v → prB rules u v = true
  | [], u, _ => rfl
  | p :: v, u, h => by
    rw [prB, relB_end h.2, Bool.and_true]
    unfold okD
    rw [decide_eq_true h.1.1, h.1.2.1, Bool.true_and, Bool.true_and]
    refine List.all_eq_true.2 (fun j hj => ?_)
    rcases h.1.2.2 j hj with h1 | ⟨_, h1⟩
    · exact h1
    · cases h1
theorem relB_mono {rules : List (List S58)} {xs xs' : List S182} {N N' : List Bool} : ∀ {v u u' : List S182}, relB rules xs N u v → (∀ (j e : Int), hasD u j e = true → hasD u' j e = true) → (∀ (j e : Int), rdOf false N j = true → hasD xs j e = true → hasD u' j e = true ∨ rdOf false N' j = true ∧ hasD xs' j e = true) → relB rules xs' N' u' v
  | [], _, _, _, _, _ => trivial
  | p :: v, u, u', h, h1, h2 => by
    refine ⟨⟨h.1.1, h.1.2.1, fun j hj => ?_⟩, relB_mono h.2 (fun j e hh => ?_) (fun j e hn hx => ?_)⟩
    · rcases h.1.2.2 j hj with h3 | ⟨h3, h4⟩
      · exact .inl (h1 _ _ h3)
      · exact h2 _ _ h3 h4
    · unfold hasD at hh ⊢
      rw [List.any_append, Bool.or_eq_true] at hh ⊢
      rcases hh with hh | hh
      · exact .inl (h1 _ _ hh)
      · exact .inr hh
    · rcases h2 j e hn hx with h3 | h3
      · refine .inl ?_
        unfold hasD at h3 ⊢
        rw [List.any_append, h3, Bool.true_or]
      · exact .inr h3
theorem needRow_has : ∀ (js : List Int) (N : List Bool) (j : Int), (rdOf false N j = true → rdOf false (needRow N js) j = true) ∧ (j ∈ js → 0 ≤ j → j < (N.length : Int) → (∀ q ∈ js, 0 ≤ q) → rdOf false (needRow N js) j = true)
  | [], N, j => ⟨fun h => h, fun h => by cases h⟩
  | q :: js, N, j => by
    have ih := needRow_has js (N.set q.toNat true) j
    have keep : rdOf false N j = true → rdOf false (N.set q.toNat true) j = true := by
      intro h
      unfold rdOf at h ⊢
      rw [List.getD_eq_getElem?_getD] at h ⊢
      rw [List.getElem?_set]
      split
      · split
        · rfl
        · next h2 => rw [List.getElem?_eq_none (by omega)] at h; simp at h
      · exact h
    refine ⟨fun h => ih.1 (keep h), fun h h0 h1 h2 => ?_⟩
    by_cases c : j = q
    · subst c
      refine ih.1 ?_
      unfold rdOf
      rw [List.getD_eq_getElem?_getD, List.getElem?_set_self (by omega)]
      rfl
    · rcases List.mem_cons.1 h with h | h
      · exact absurd h c
      · exact ih.2 h h0 (by rw [List.length_set]; exact h1) (fun x hx => h2 x (List.mem_cons_of_mem _ hx))
theorem back_ok {rules : List (List S58)} (hv : Vd rules) {need : List Bool} (hn : need.length = rules.length) : ∀ (Q xs : List S182), prB rules [] (xs ++ Q) = true → relB rules xs (Q.foldr (fun d p => stepD rules p d) (need, [])).1 [] (Q.foldr (fun d p => stepD rules p d) (need, [])).2.reverse ∧ (Q.foldr (fun d p => stepD rules p d) (need, [])).1.length = rules.length
  | [], xs, _ => ⟨trivial, hn⟩
  | d :: Q, xs, h => by
    have e : xs ++ d :: Q = (xs ++ [d]) ++ Q := by simp
    obtain ⟨ih, il⟩ := back_ok hv hn Q (xs ++ [d]) (by rw [← e]; exact h)
    have hpd : prB rules [] (xs ++ [d]) = true := by
      have key : ∀ (ys zs pre : List S182), prB rules pre (ys ++ zs) = true → prB rules pre ys = true := by
        intro ys
        induction ys with
        | nil => intro zs pre _; rfl
        | cons y ys ihy =>
          intro zs pre hh
          rw [List.cons_append, prB, Bool.and_eq_true] at hh
          rw [prB, hh.1, Bool.true_and]
          exact ihy zs _ hh.2
      exact key (xs ++ [d]) Q [] (by rw [← e]; exact h)
    rw [prB_snoc, Bool.and_eq_true, List.nil_append] at hpd
    have hok := hpd.2
    unfold okD at hok
    rw [Bool.and_eq_true, Bool.and_eq_true] at hok
    have hin := of_decide_eq_true hok.1
    rw [List.foldr_cons]
    obtain ⟨p, hp⟩ : ∃ p, Q.foldr (fun d p => stepD rules p d) (need, []) = p := ⟨_, rfl⟩
    rw [hp] at ih il ⊢
    refine ⟨?_, by rw [stepD_len]; exact il⟩
    have split : ∀ (j e : Int), hasD (xs ++ [d]) j e = true → hasD xs j e = true ∨ d.f0 = j ∧ d.f2 = e := by
      intro j e hh
      unfold hasD at hh ⊢
      rw [List.any_append, Bool.or_eq_true] at hh
      rcases hh with hh | hh
      · exact .inl hh
      · refine .inr ?_
        simpa using hh
    by_cases c : p.1.getD d.f0.toNat false = true
    · have hst : stepD rules p d = (needRow p.1 (rd_T58 (rd_L3 rules d.f0) d.f1).f1, p.2 ++ [d]) := by unfold stepD; exact if_pos c
      rw [hst]
      show relB rules xs (needRow p.1 (ruleOf rules d).f1) [] (p.2 ++ [d]).reverse
      rw [List.reverse_append, List.reverse_singleton, List.singleton_append]
      obtain ⟨lr, hlr, hrm⟩ := rule_in hin
      have hrg := (hv.2 lr hlr _ hrm).2
      refine ⟨⟨hin, hok.2.1, fun j hj => .inr ⟨?_, List.all_eq_true.1 hok.2.2 j hj⟩⟩, ?_⟩
      · exact (needRow_has (ruleOf rules d).f1 p.1 j).2 hj (hrg j hj).1 (by rw [il]; exact (hrg j hj).2) (fun q hq => (hrg q hq).1)
      · refine relB_mono ih (fun j e hh => by cases hh) (fun j e hN hx => ?_)
        rcases split j e hx with h1 | ⟨h1, h2⟩
        · exact .inr ⟨(needRow_has (ruleOf rules d).f1 p.1 j).1 hN, h1⟩
        · refine .inl (hasD_mem.2 ⟨d, by simp, h1, h2⟩)
    · have hst : stepD rules p d = p := by unfold stepD; exact if_neg c
      rw [hst]
      refine relB_mono ih (fun j e hh => hh) (fun j e hN hx => ?_)
      rcases split j e hx with h1 | ⟨h1, h2⟩
      · exact .inr ⟨hN, h1⟩
      · exact absurd (by rw [h1]; exact hN) c
theorem back_head {rules : List (List S58)} {need : List Bool} {dm : S182} (h : need.getD dm.f0.toNat false = true) : ∀ (Q : List S182), ((Q ++ [dm]).foldr (fun d p => stepD rules p d) (need, [])).2.head? = some dm
  | [] => by
    show (stepD rules (need, []) dm).2.head? = some dm
    unfold stepD
    rw [if_pos h]
    rfl
  | d :: Q => by
    have ih := back_head (rules := rules) h Q
    rw [List.cons_append, List.foldr_cons]
    obtain ⟨p, hp⟩ : ∃ p, (Q ++ [dm]).foldr (fun d p => stepD rules p d) (need, []) = p := ⟨_, rfl⟩
    rw [hp] at ih ⊢
    unfold stepD
    split
    · show (p.2 ++ [d]).head? = some dm
      rw [List.head?_append, ih]
      rfl
    · exact ih
/-! Derive. -/
theorem first_l0 (ds : List S182) (hd : ds.length ≤ 140737488355328) (st : Int) : ∀ (t : List S182) (i : Nat), ds.drop i = t → ∃ r, Ev (fun k => slices_IndexFunc_105_at_106_3.l0 k ds (ds.length : Int) (i : Int) st) r ∧ (0 ≤ r ∧ r < (ds.length : Int) ∧ (rd_T182 ds r).f0 = st ∨ r < 0 ∧ inDs t st = false)
  | [], i, h => by
    have := drop_nil h
    exact ⟨-1, Ev.some' (fun k => by simp only [slices_IndexFunc_105_at_106_3.l0]; rw [if_neg (by omega)]), .inr ⟨by omega, rfl⟩⟩
  | x :: t, i, h => by
    obtain ⟨h1, h2, h3, h4⟩ := drop_cons h
    have e : rd_T182 ds (i : Int) = x := h3 _
    by_cases c : x.f0 = st
    · refine ⟨(i : Int), Ev.some' (fun k => ?_), .inl ⟨by omega, by omega, by rw [e]; exact c⟩⟩
      simp only [slices_IndexFunc_105_at_106_3.l0]
      rw [if_pos (by omega), if_pos (by omega), if_pos (by omega), e, fixpoint_Derive_1.f, Option.bind_some, if_pos (by simpa using c)]
    · obtain ⟨r, ih, hr⟩ := first_l0 ds hd st t (i + 1) h2
      refine ⟨r, Ev.stepK ih (fun k => ?_), ?_⟩
      · simp only [slices_IndexFunc_105_at_106_3.l0]
        rw [if_pos (by omega), if_pos (by omega), if_pos (by omega), e, fixpoint_Derive_1.f, Option.bind_some, if_neg (by simpa using c), wrap_id (n := (i : Int) + 1) (by omega) (by omega)]
        rfl
      · rcases hr with hr | ⟨r1, r2⟩
        · exact .inl hr
        · refine .inr ⟨r1, ?_⟩
          unfold inDs at r2 ⊢
          rw [List.any_cons, decide_eq_false c, Bool.false_or]
          exact r2
theorem revD_take (ds : List S182) (n : Nat) (h : n ≤ ds.length) : revD ds n = (ds.take n).reverse := by
  unfold revD
  rw [List.map_reverse]
  congr 1
  refine List.ext_getElem? (fun j => ?_)
  by_cases c : j < n
  · rw [List.getElem?_map, List.getElem?_range c, List.getElem?_take_of_lt c]
    unfold rd_T182
    rw [Option.map_some, Int.toNat_natCast, List.getD_eq_getElem?_getD, List.getElem?_eq_getElem (by omega)]
    rfl
  · rw [List.getElem?_eq_none (by simp; omega), List.getElem?_eq_none (by rw [List.length_take]; omega)]
theorem derive_bad {rules : List (List S58)} (hs : Sized rules) (hc : chk rules ≠ 0) (st el : Int) : Ev (fun k => fixpoint_Derive.f k rules st el) ([], chk rules) := by
  unfold fixpoint_Derive.f
  exact Ev.bind (check_ev rules hs) (Ev.neg hc (Ev.now _))
theorem derive_out {rules : List (List S58)} (hs : Sized rules) (hc : chk rules = 0) {st el : Int} (h : st < 0 ∨ st ≥ (rules.length : Int) ∨ el < 0 ∨ el ≥ 20) : Ev (fun k => fixpoint_Derive.f k rules st el) ([], 1) := by
  unfold fixpoint_Derive.f
  have hk := check_ev rules hs
  rw [hc] at hk
  exact Ev.bind hk (Ev.pos rfl (Ev.pos h (Ev.now _)))
theorem derive_found {rules : List (List S58)} (hs : Sized rules) (hc : chk rules = 0) {st el : Int} (a1 : 0 ≤ st) (a2 : st < (rules.length : Int)) (a3 : 0 ≤ el) (a4 : el < 20) {M : Nat} (hM : chn rules (M + 1) = chn rules M) :
    (bit (rd (chn rules M) st) el.toNat = false → Ev (fun k => fixpoint_Derive.f k rules st el) ([], 5)) ∧ (bit (rd (chn rules M) st) el.toNat = true → ∃ F, Ev (fun k => fixpoint_Derive.f k rules st el) (F, 0) ∧ F.length ≤ rules.length ∧ provesV rules F st el = true) := by
  have hv := chk_ok hc
  have h60 := hv.1
  have hk := check_ev rules hs
  rw [hc] at hk
  obtain ⟨ds, hde, hg, hcl⟩ := der_ev rules hs hv el a3 a4
  have hlen := hg.len
  obtain ⟨r, hfe, hr⟩ := first_l0 ds (by omega) st ds 0 rfl
  have hfe' : Ev (fun k => slices_IndexFunc_105_at_106_3.f k ds st) r := hfe
  have hsound := sound_of rules hv hM ds [] hg.pr (fun d hd => by cases hd)
  rcases hr with ⟨r1, r2, r3⟩ | ⟨r1, r2⟩
  · -- found
    obtain ⟨m, rfl⟩ := Int.eq_ofNat_of_zero_le r1
    have hm : m < ds.length := by omega
    have hmm : rd_T182 ds (m : Int) = ds[m] := by
      unfold rd_T182
      rw [Int.toNat_natCast, List.getD_eq_getElem?_getD, List.getElem?_eq_getElem hm]
      rfl
    rw [hmm] at r3
    have hmem : ds[m] ∈ ds := List.getElem_mem hm
    have hb := hsound ds[m] hmem
    rw [r3, hg.el _ hmem] at hb
    refine ⟨fun z => (by rw [hb] at z; cases z), fun _ => ?_⟩
    have htk : ds.take (m + 1) = ds.take m ++ [ds[m]] := List.take_succ_eq_append_getElem hm
    have hgood : goodS rules ds = true := by
      unfold goodS
      refine List.all_eq_true.2 (fun d hd => decide_eq_true ?_)
      have key : ∀ (l pre : List S182), prB rules pre l = true → ∀ d ∈ l, inD rules d := by
        intro l
        induction l with
        | nil => intro pre _ d hd; cases hd
        | cons x l ih =>
          intro pre h d hd
          rw [prB, Bool.and_eq_true] at h
          rcases List.mem_cons.1 hd with rfl | hd
          · have := h.1
            unfold okD at this
            rw [Bool.and_eq_true] at this
            exact of_decide_eq_true this.1
          · exact ih _ h.2 d hd
      have hin := key ds [] hg.pr d hd
      obtain ⟨lr, hlr, hrm⟩ := rule_in hin
      exact ⟨hin.1.1, hin.1.2, hin.2.1.1, hin.2.1.2, (hv.2 lr hlr _ hrm).2⟩
    obtain ⟨need, hneed⟩ : ∃ need, (List.replicate rules.length false).set st.toNat true = need := ⟨_, rfl⟩
    have hnl : need.length = rules.length := by rw [← hneed, List.length_set, List.length_replicate]
    have hnt : need.getD (ds[m]).f0.toNat false = true := by
      rw [r3, ← hneed, List.getD_eq_getElem?_getD, List.getElem?_set_self (by rw [List.length_replicate]; omega)]
      rfl
    have hbk : backD rules need (revD ds (m + 1)) = (ds.take (m + 1)).foldr (fun d p => stepD rules p d) (need, []) := by
      unfold backD
      rw [revD_take ds (m + 1) (by omega), List.foldl_reverse]
    obtain ⟨hrel, hrl⟩ := back_ok (rules := rules) hv hnl (ds.take (m + 1)) [] (by
      rw [List.nil_append]
      have key : ∀ (ys zs pre : List S182), prB rules pre (ys ++ zs) = true → prB rules pre ys = true := by
        intro ys
        induction ys with
        | nil => intro zs pre _; rfl
        | cons y ys ihy =>
          intro zs pre hh
          rw [List.cons_append, prB, Bool.and_eq_true] at hh
          rw [prB, hh.1, Bool.true_and]
          exact ihy zs _ hh.2
      exact key (ds.take (m + 1)) (ds.drop (m + 1)) [] (by rw [List.take_append_drop]; exact hg.pr))
    have hhead := back_head (rules := rules) hnt (ds.take m)
    rw [← htk] at hhead
    have hlb := backD_len rules need (revD ds (m + 1)) []
    have hrdl : (revD ds (m + 1)).length = m + 1 := by rw [revD_take ds (m + 1) (by omega), List.length_reverse, List.length_take]; omega
    obtain ⟨acc, hacc⟩ : ∃ acc, (backD rules need (revD ds (m + 1))).2 = acc := ⟨_, rfl⟩
    have hal : acc.length ≤ m + 1 := by
      rw [← hacc]
      have := hlb.2
      rw [hrdl] at this
      simpa [backD] using this
    rw [← hbk, hacc] at hrel hhead
    refine ⟨acc.reverse, ?_, by rw [List.length_reverse]; omega, ?_⟩
    · unfold fixpoint_Derive.f
      refine Ev.bind hk (Ev.pos rfl (Ev.neg (by omega) (Ev.bind hde (Ev.bind hfe' (Ev.neg (by omega) (Ev.pos ⟨r2, hgood, by omega, by omega⟩ ?_))))))
      rw [Int.toNat_natCast, hneed, hacc]
      exact Ev.bind (rev_ev acc (by omega)) (Ev.now _)
    · unfold provesV lastD
      rw [relB_end hrel, Bool.true_and, List.getLast?_reverse, hhead]
      simp only []
      rw [r3, hg.el _ hmem, decide_eq_true rfl, decide_eq_true rfl]
      rfl
  · have hbf : bit (rd (chn rules M) st) el.toNat = false := by
      cases c : bit (rd (chn rules M) st) el.toNat with
      | false => rfl
      | true =>
        have := complete_of rules hv hcl M st.toNat (by rw [Int.toNat_of_nonneg a1]; exact c)
        rw [Int.toNat_of_nonneg a1, r2] at this
        cases this
    refine ⟨fun _ => ?_, fun z => (by rw [hbf] at z; cases z)⟩
    unfold fixpoint_Derive.f
    exact Ev.bind hk (Ev.pos rfl (Ev.neg (by omega) (Ev.bind hde (Ev.bind hfe' (Ev.pos r1 (Ev.now _))))))
end Go.Proofs.Ytglckkkjfcomlaa.PrFixpointProofs
