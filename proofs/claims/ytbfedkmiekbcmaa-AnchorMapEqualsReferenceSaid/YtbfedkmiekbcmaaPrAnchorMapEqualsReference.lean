/-
  The pure statement of AnchorMapEqualsReference: the program's map of offsets and the reference's agree.
-/
import Derived.Test.YtbfedkmiekbcmaaSAnchorMapEqualsReference
import Derived.Test.YtbfedkmiekbcmaaAid
namespace Go.Proofs.Ytbfedkmiekbcmaa.Pr
open Go.RowKit Go.Proofs.YtbfedkmiekbcmaaW.PrintWords Go.Proofs.YtbfedkmiekbcmaaW.PrintLast Go.Proofs.YtbfedkmiekbcmaaW.PrintMore Go.Proofs.Ytbfedkmiekbcmaa.QAnchorMapEqualsReference Go.Proofs.Ytbfedkmiekbcmaa.Aid

set_option linter.unusedSimpArgs false
set_option linter.unusedVariables false

def vspec : Int → List S137 → Int
  | _, [] => 0
  | p, x :: t => if x.f0 ≤ p then 3 else if x.f1 < x.f0 then 3 else vspec x.f1 t
def vref : Option Int → List S137 → Int
  | _, [] => 0
  | p, x :: t => if x.f0 < 0 then 3 else if x.f1 < x.f0 then 3 else match p with | some q => if x.f0 ≤ q then 3 else vref (some x.f1) t | none => vref (some x.f1) t
theorem vref_pos : ∀ (t : List S137) (p : Int), 0 ≤ p → vspec p t = vref (some p) t
  | [], _, _ => rfl
  | x :: t, p, hp => by
    unfold vspec vref
    by_cases h0 : x.f0 ≤ p
    · rw [if_pos h0]
      split
      · rfl
      · split
        · rfl
        · simp [h0]
    · have h1 : ¬ x.f0 < 0 := by omega
      simp only [h0, h1, if_false]
      split
      · rfl
      · exact vref_pos t x.f1 (by omega)
theorem vref_all (xs : List S137) : vspec (-1) xs = vref none xs := by
  cases xs with
  | nil => rfl
  | cons x t =>
    unfold vspec vref
    by_cases h0 : x.f0 < 0
    · rw [if_pos (by omega), if_pos h0]
    · rw [if_neg (by omega), if_neg h0]
      split
      · rfl
      · exact vref_pos t x.f1 (by omega)

theorem validate_l0 (xs : List S137) (hn : xs.length ≤ 1000000000000000) : ∀ (t pre : List S137) (p : Int), xs = pre ++ t → Ev (fun k => anchor_validate.l0 k p xs (xs.length : Int) (pre.length : Int)) (vspec p t)
  | [], pre, p, h => by
    have hl : xs.length = pre.length := by rw [h]; simp
    refine Ev.some' (fun k => ?_)
    simp only [anchor_validate.l0]
    rw [if_neg (by omega)]
    rfl
  | x :: t, pre, p, h => by
    have hl : xs.length = pre.length + (t.length + 1) := by rw [h]; simp
    have hr : rd_T137 xs (pre.length : Int) = x := by rw [h]; exact getD_mid _ _ _ _
    by_cases h0 : x.f0 ≤ p
    · refine Ev.some' (fun k => ?_)
      simp only [anchor_validate.l0]
      rw [if_pos (by omega), if_pos (by omega), if_pos (by omega), hr, if_pos h0]
      unfold vspec
      rw [if_pos h0]
    · by_cases h1 : x.f1 < x.f0
      · refine Ev.some' (fun k => ?_)
        simp only [anchor_validate.l0]
        rw [if_pos (by omega), if_pos (by omega), if_pos (by omega), hr, if_neg h0, if_pos h1]
        unfold vspec
        rw [if_neg h0, if_pos h1]
      · have ih := validate_l0 xs hn t (pre ++ [x]) x.f1 (by rw [h]; simp)
        have e : vspec p (x :: t) = vspec x.f1 t := by rw [vspec, if_neg h0, if_neg h1]
        rw [e]
        refine Ev.stepK ih (fun k => ?_)
        simp only [anchor_validate.l0]
        rw [if_pos (by omega), if_pos (by omega), if_pos (by omega), hr, if_neg h0, if_neg h1, wrap_id (by omega) (by omega)]
        simp
theorem order_l0 (xs : List S137) (hn : xs.length ≤ 1000000000000000) : ∀ (t pre : List S137) (p : Option Int), xs = pre ++ t → p = pre.getLast?.map (·.f1) → Ev (fun k => glossatorref4_ValidateOrder.l0 k xs (pre.length : Int)) (vref p t)
  | [], pre, p, h, hp => by
    have hl : xs.length = pre.length := by rw [h]; simp
    refine Ev.some' (fun k => ?_)
    simp only [glossatorref4_ValidateOrder.l0]
    rw [if_neg (by omega)]
    rfl
  | x :: t, pre, p, h, hp => by
    have hl : xs.length = pre.length + (t.length + 1) := by rw [h]; simp
    have hr : rd_T137 xs (pre.length : Int) = x := by rw [h]; exact getD_mid _ _ _ _
    by_cases h0 : x.f0 < 0
    · refine Ev.some' (fun k => ?_)
      simp only [glossatorref4_ValidateOrder.l0]
      rw [if_pos (by omega), if_pos (by omega), hr, if_pos h0]
      unfold vref
      rw [if_pos h0]
    · by_cases h1 : x.f1 < x.f0
      · refine Ev.some' (fun k => ?_)
        simp only [glossatorref4_ValidateOrder.l0]
        rw [if_pos (by omega), if_pos (by omega), hr, if_neg h0, if_pos h1]
        unfold vref
        rw [if_neg h0, if_pos h1]
      · have ih := order_l0 xs hn t (pre ++ [x]) (some x.f1) (by rw [h]; simp) (by simp)
        have next : (((pre ++ [x]).length : Nat) : Int) = wrap64 ((pre.length : Int) + 1) := by rw [wrap_id (by omega) (by omega)]; simp
        rcases List.eq_nil_or_concat pre with rfl | ⟨q, y, rfl⟩
        · obtain rfl : p = none := by simpa using hp
          have e : vref none (x :: t) = vref (some x.f1) t := by rw [vref, if_neg h0, if_neg h1]
          rw [e]
          refine Ev.stepK ih (fun k => ?_)
          simp only [glossatorref4_ValidateOrder.l0]
          rw [if_pos (by omega), if_pos (by omega), hr, if_neg h0, if_neg h1, if_neg (by simp), next]
        · simp only [List.concat_eq_append] at *
          obtain rfl : p = some y.f1 := by simpa using hp
          have hl2 : (q ++ [y]).length = q.length + 1 := by simp
          have hw : wrap64 (((q ++ [y]).length : Int) - 1) = (q.length : Int) := by rw [wrap_id (by omega) (by omega)]; omega
          have hr2 : rd_T137 xs (q.length : Int) = y := by rw [h, List.append_assoc]; exact getD_mid _ _ _ _
          by_cases h2 : x.f0 ≤ y.f1
          · refine Ev.some' (fun k => ?_)
            simp only [glossatorref4_ValidateOrder.l0]
            rw [if_pos (by omega), if_pos (by omega), hr, if_neg h0, if_neg h1, if_pos (by omega), hw, if_pos (by omega), if_pos (by omega), hr2, if_pos h2]
            unfold vref
            rw [if_neg h0, if_neg h1]
            simp [h2]
          · have e : vref (some y.f1) (x :: t) = vref (some x.f1) t := by rw [vref, if_neg h0, if_neg h1]; simp [h2]
            rw [e]
            refine Ev.stepK ih (fun k => ?_)
            simp only [glossatorref4_ValidateOrder.l0]
            rw [if_pos (by omega), if_pos (by omega), hr, if_neg h0, if_neg h1, if_pos (by omega), hw, if_pos (by omega), if_pos (by omega), hr2, if_neg h2, next]

/-- The error of the order. -/
def vv (xs : List S137) : Int := if (xs.length : Int) > 50 then 2 else vspec (-1) xs
theorem validate_ev (xs : List S137) (hn : xs.length ≤ 1000000000000000) : Ev (fun k => anchor_validate.f k xs) (vv xs) := by
  unfold vv anchor_validate.f
  split
  · exact Ev.now _
  · exact validate_l0 xs hn xs [] (-1) rfl
theorem order_ev (xs : List S137) (hn : xs.length ≤ 1000000000000000) : Ev (fun k => glossatorref4_ValidateOrder.f k xs) (vv xs) := by
  unfold vv glossatorref4_ValidateOrder.f
  split
  · exact Ev.now _
  · rw [vref_all]
    exact order_l0 xs hn xs [] none rfl rfl

/-! ### the map of an offset -/
def mspec (o : Int) (right : Bool) : Int → List S137 → Int
  | s, [] => wrap64 (o + s)
  | s, x :: t => if x.f1 < o ∨ x.f1 = o ∧ (x.f0 < o ∨ right = true) then mspec o right (wrap64 (s + wrap64 ((x.f2.size : Int) - wrap64 (x.f1 - x.f0)))) t
    else if x.f0 < o ∧ right = true then wrap64 (wrap64 (x.f0 + s) + (x.f2.size : Int)) else if x.f0 < o then wrap64 (x.f0 + s) else wrap64 (o + s)
theorem map_l0 (xs : List S137) (o : Int) (right : Bool) (hn : xs.length ≤ 1000000000000000) : ∀ (t pre : List S137) (s : Int), xs = pre ++ t → Ev (fun k => anchor_mapOffset.l0 k o right s xs (xs.length : Int) (pre.length : Int)) (mspec o right s t)
  | [], pre, s, h => by
    have hl : xs.length = pre.length := by rw [h]; simp
    refine Ev.some' (fun k => ?_)
    simp only [anchor_mapOffset.l0]
    rw [if_neg (by omega)]
    rfl
  | x :: t, pre, s, h => by
    have hl : xs.length = pre.length + (t.length + 1) := by rw [h]; simp
    have hr : rd_T137 xs (pre.length : Int) = x := by rw [h]; exact getD_mid _ _ _ _
    have next : (((pre ++ [x]).length : Nat) : Int) = wrap64 ((pre.length : Int) + 1) := by rw [wrap_id (by omega) (by omega)]; simp
    have ih := map_l0 xs o right hn t (pre ++ [x]) (wrap64 (s + wrap64 ((x.f2.size : Int) - wrap64 (x.f1 - x.f0)))) (by rw [h]; simp)
    have yes : Ev (fun k => anchor_mapOffset.j1 k o right s xs (xs.length : Int) (pre.length : Int) true x.f0 x.f1 x.f2) (mspec o right (wrap64 (s + wrap64 ((x.f2.size : Int) - wrap64 (x.f1 - x.f0)))) t) := by
      refine Ev.stepK ih (fun k => ?_)
      simp only [anchor_mapOffset.j1]
      rw [if_pos trivial, next]
    have no : Ev (fun k => anchor_mapOffset.j1 k o right s xs (xs.length : Int) (pre.length : Int) false x.f0 x.f1 x.f2) (if x.f0 < o ∧ right = true then wrap64 (wrap64 (x.f0 + s) + (x.f2.size : Int)) else if x.f0 < o then wrap64 (x.f0 + s) else wrap64 (o + s)) := by
      have j2 : ∀ b : Bool, Ev (fun k => anchor_mapOffset.j2 k o s b x.f0 x.f1 x.f2) (if b = true then wrap64 (wrap64 (x.f0 + s) + (x.f2.size : Int)) else if x.f0 < o then wrap64 (x.f0 + s) else wrap64 (o + s)) := by
        intro b
        refine Ev.some' (fun k => ?_)
        simp only [anchor_mapOffset.j2]
        split
        · rfl
        · split <;> rfl
      by_cases h3 : x.f0 < o
      · have e := Ev.stepK (g := fun k => anchor_mapOffset.j1 k o right s xs (xs.length : Int) (pre.length : Int) false x.f0 x.f1 x.f2) (j2 right) (fun k => by
          simp only [anchor_mapOffset.j1]
          rw [if_neg (by simp), if_pos h3])
        simpa [h3] using e
      · have e := Ev.stepK (g := fun k => anchor_mapOffset.j1 k o right s xs (xs.length : Int) (pre.length : Int) false x.f0 x.f1 x.f2) (j2 false) (fun k => by
          simp only [anchor_mapOffset.j1]
          rw [if_neg (by simp), if_neg h3])
        simpa [h3] using e
    unfold mspec
    by_cases h0 : x.f1 < o
    · rw [if_pos (.inl h0)]
      refine Ev.stepK yes (fun k => ?_)
      simp only [anchor_mapOffset.l0]
      rw [if_pos (by omega), if_pos (by omega), if_pos (by omega), hr, if_pos h0]
      simp [h0]
    · by_cases h1 : x.f1 = o
      · by_cases h2 : x.f0 < o
        · rw [if_pos (.inr ⟨h1, .inl h2⟩)]
          refine Ev.stepK yes (fun k => ?_)
          simp only [anchor_mapOffset.l0]
          rw [if_pos (by omega), if_pos (by omega), if_pos (by omega), hr, if_neg h0, if_pos h1, if_pos h2]
        · cases right with
          | true =>
            rw [if_pos (.inr ⟨h1, .inr rfl⟩)]
            refine Ev.stepK yes (fun k => ?_)
            simp only [anchor_mapOffset.l0]
            rw [if_pos (by omega), if_pos (by omega), if_pos (by omega), hr, if_neg h0, if_pos h1, if_neg h2]
          | false =>
            rw [if_neg (by simp [h0, h2])]
            refine Ev.stepK no (fun k => ?_)
            simp only [anchor_mapOffset.l0]
            rw [if_pos (by omega), if_pos (by omega), if_pos (by omega), hr, if_neg h0, if_pos h1, if_neg h2]
      · rw [if_neg (by simp [h0, h1])]
        refine Ev.stepK no (fun k => ?_)
        simp only [anchor_mapOffset.l0]
        rw [if_pos (by omega), if_pos (by omega), if_pos (by omega), hr, if_neg h0, if_neg h1]

/-- The reference's step, from the last edit on. -/
def stp (o : Int) (right : Bool) (x : S137) (pos : Int) : Int :=
  if o > x.f0 ∧ o < x.f1 then (if right = true then wrap64 (x.f0 + (x.f2.size : Int)) else x.f0)
  else if o > x.f1 ∨ o = x.f1 ∧ (o > x.f0 ∨ right = true) then wrap64 (wrap64 (wrap64 (pos + (x.f2.size : Int)) + x.f0) - x.f1) else pos
theorem ref_l0 (xs : List S137) (o : Int) (right : Bool) (hn : xs.length ≤ 1000000000000000) : ∀ (n : Nat) (pre t : List S137), pre.length = n → xs = pre ++ t → ∀ pos, pos = t.foldr (stp o right) o → Ev (fun k => glossatorref4_MapOffset.l0 k xs o right pos ((n : Int) - 1)) (xs.foldr (stp o right) o)
  | 0, pre, t, hp, h, pos, hpos => by
    obtain rfl : pre = [] := List.eq_nil_of_length_eq_zero hp
    refine Ev.some' (fun k => ?_)
    simp only [glossatorref4_MapOffset.l0]
    rw [if_neg (by omega), hpos, h]
    rfl
  | n + 1, pre, t, hp, h, pos, hpos => by
    rcases List.eq_nil_or_concat pre with rfl | ⟨q, x, rfl⟩
    · simp at hp
    simp only [List.concat_eq_append] at *
    have hq : q.length = n := by simpa using hp
    have hl : xs.length = n + (t.length + 1) := by rw [h]; simp [hq]
    have hr : rd_T137 xs (((n + 1 : Nat) : Int) - 1) = x := by
      have e : (((n + 1 : Nat) : Int) - 1) = (q.length : Int) := by omega
      rw [e, h, List.append_assoc]
      exact getD_mid _ _ _ _
    have ih := fun pos' hp' => ref_l0 xs o right hn n q (x :: t) hq (by rw [h, List.append_assoc]; rfl) pos' hp'
    have prev : wrap64 ((((n + 1 : Nat) : Int) - 1) - 1) = ((n : Int) - 1) := by rw [wrap_id (by omega) (by omega)]; omega
    have hst : ∀ b : Bool, stp o right x pos = (if b = true then (if right = true then wrap64 (x.f0 + (x.f2.size : Int)) else x.f0)
        else if o > x.f1 ∨ o = x.f1 ∧ (o > x.f0 ∨ right = true) then wrap64 (wrap64 (wrap64 (pos + (x.f2.size : Int)) + x.f0) - x.f1) else pos) →
        Ev (fun k => glossatorref4_MapOffset.j1 k xs o right pos (((n + 1 : Nat) : Int) - 1) b x.f0 x.f1 x.f2) (xs.foldr (stp o right) o) := by
      intro b hb
      have go := ih (stp o right x pos) (by rw [hpos]; rfl)
      refine Ev.stepK go (fun k => ?_)
      simp only [glossatorref4_MapOffset.j1, prev, hb]
      cases b with
      | true => cases right <;> simp
      | false =>
        simp only [Bool.false_eq_true, if_false]
        by_cases h1 : o > x.f1
        · simp [h1]
        · by_cases h2 : o = x.f1
          · by_cases h3 : o > x.f0
            · simp [h1, h2, h3] <;> simp [← h2, h3]
            · cases right
              · simp [h1, h2, h3] <;> simp [← h2, h3]
              · simp [h1, h2, h3] <;> simp [← h2, h3]
          · simp [h1, h2]
    have hlen : (((n + 1 : Nat) : Int) - 1) < (xs.length : Int) := by omega
    by_cases h0 : o > x.f0
    · have e := hst (decide (o < x.f1)) (by simp [stp, h0])
      refine Ev.stepK e (fun k => ?_)
      simp only [glossatorref4_MapOffset.l0]
      rw [if_pos (by omega), if_pos (by omega), if_pos (by omega), hr, if_pos h0]
    · have e := hst false (by simp [stp, h0])
      refine Ev.stepK e (fun k => ?_)
      simp only [glossatorref4_MapOffset.l0]
      rw [if_pos (by omega), if_pos (by omega), if_pos (by omega), hr, if_neg h0]

/-- The edits stand in order behind p. -/
def Sorted' : Int → List S137 → Prop
  | _, [] => True
  | p, x :: t => p < x.f0 ∧ x.f0 ≤ x.f1 ∧ Sorted' x.f1 t
theorem sorted_of : ∀ (t : List S137) (p : Int), vspec p t = 0 → Sorted' p t
  | [], _, _ => trivial
  | x :: t, p, h => by
    unfold vspec at h
    split at h
    · simp at h
    · split at h
      · simp at h
      · exact ⟨by omega, by omega, sorted_of t _ h⟩
theorem far_fold (o : Int) (right : Bool) : ∀ (t : List S137) (p : Int), Sorted' p t → o ≤ p → t.foldr (stp o right) o = o
  | [], _, _, _ => rfl
  | x :: t, p, ⟨h1, h2, h3⟩, ho => by
    rw [List.foldr_cons, far_fold o right t x.f1 h3 (by omega)]
    unfold stp
    rw [if_neg (by omega), if_neg (by omega)]
theorem mspec_fold (o : Int) (right : Bool) : ∀ (t : List S137) (p s : Int), Sorted' p t → mspec o right s t = wrap64 (t.foldr (stp o right) o + s)
  | [], _, _, _ => rfl
  | x :: t, p, s, ⟨h1, h2, h3⟩ => by
    rw [List.foldr_cons]
    unfold mspec
    by_cases hc : x.f1 < o ∨ x.f1 = o ∧ (x.f0 < o ∨ right = true)
    · have hle : x.f1 ≤ o := by rcases hc with h | ⟨h, _⟩ <;> omega
      have hc2 : o > x.f1 ∨ o = x.f1 ∧ (o > x.f0 ∨ right = true) := by
        rcases hc with h | ⟨h, h'⟩
        · exact .inl h
        · exact .inr ⟨h.symm, h'⟩
      rw [if_pos hc, mspec_fold o right t x.f1 _ h3]
      unfold stp
      rw [if_neg (by omega), if_pos hc2]
      apply wrap_eq
      generalize t.foldr (stp o right) o = r
      unfold wrap64
      omega
    · have hlt : ¬ x.f1 < o := fun h => hc (.inl h)
      rw [if_neg hc, far_fold o right t x.f1 h3 (by omega)]
      unfold stp
      by_cases h4 : x.f0 < o
      · have hgt : o < x.f1 := by
          have hne : x.f1 ≠ o := fun h => hc (.inr ⟨h, .inl h4⟩)
          omega
        have e1 : o > x.f0 ∧ o < x.f1 := ⟨h4, hgt⟩
        cases right with
        | true =>
          rw [if_pos e1, if_pos ⟨h4, rfl⟩, if_pos rfl]
          apply wrap_eq
          unfold wrap64
          omega
        | false => simp [h4, hgt]
      · have e1 : ¬ (o > x.f0 ∧ o < x.f1) := fun h => h4 h.1
        have e2 : ¬ (o > x.f1 ∨ o = x.f1 ∧ (o > x.f0 ∨ right = true)) := by
          rintro (h | ⟨h, h'⟩)
          · exact hlt h
          · exact hc (.inr ⟨h.symm, h'⟩)
        rw [if_neg e1, if_neg e2, if_neg (fun h => h4 h.1), if_neg h4]

def inI (n : Int) : Prop := -9223372036854775808 ≤ n ∧ n ≤ 9223372036854775807
theorem wrap_in (n : Int) : inI (wrap64 n) := by unfold inI wrap64; omega
theorem stp_in (o : Int) (right : Bool) (x : S137) (pos : Int) (h : inI pos) (hx : inI x.f0) : inI (stp o right x pos) := by
  unfold stp
  repeat' split
  all_goals first | exact wrap_in _ | assumption
theorem fold_in (o : Int) (right : Bool) (ho : inI o) : ∀ t : List S137, (∀ x ∈ t, inI x.f0) → inI (t.foldr (stp o right) o)
  | [], _ => ho
  | x :: t, h => stp_in o right x _ (fold_in o right ho t (fun y hy => h y (List.mem_cons_of_mem _ hy))) (h x List.mem_cons_self)
/-- What both maps say of an offset, where the edits are in order. -/
def mp (xs : List S137) (o : Int) (right : Bool) : Int := xs.foldr (stp o right) o
theorem map_ev (xs : List S137) (hn : xs.length ≤ 1000000000000000) (hok : ∀ x ∈ xs, inI x.f0) (hv : vv xs = 0) (o : Int) (ho : inI o) (right : Bool) : Ev (fun k => anchor_mapOffset.f k xs o right) (mp xs o right) := by
  have hs : Sorted' (-1) xs := by
    unfold vv at hv
    split at hv
    · simp at hv
    · exact sorted_of _ _ hv
  have e := map_l0 xs o right hn xs [] 0 rfl
  rw [mspec_fold o right xs (-1) 0 hs, Int.add_zero, wrap_id (fold_in o right ho xs hok).1 (fold_in o right ho xs hok).2] at e
  exact e
theorem ref_ev (xs : List S137) (hn : xs.length ≤ 1000000000000000) (o : Int) (right : Bool) : Ev (fun k => glossatorref4_MapOffset.f k xs o right) (mp xs o right) := by
  have e := ref_l0 xs o right hn xs.length xs [] rfl (by simp) o rfl
  refine Ev.same e (fun k => ?_)
  unfold glossatorref4_MapOffset.f
  rw [wrap_id (by omega) (by omega)]

/-! ### the three functions -/
theorem Map_ev (xs : List S137) (hn : xs.length ≤ 1000000000000000) (hok : ∀ x ∈ xs, inI x.f0) (o : Int) (ho : inI o) (right : Bool) :
    Ev (fun k => anchor_Map.f k xs o right) (if vv xs = 0 then (if o < 0 then (0, 1) else (mp xs o right, 0)) else (0, vv xs)) := by
  refine Ev.bind (validate_ev xs hn) ?_
  by_cases h0 : vv xs = 0
  · have hm := map_ev xs hn hok h0 o ho right
    simp only [h0, if_true]
    by_cases h1 : o < 0
    · refine Ev.some' (fun k => ?_)
      simp [anchor_Map.j0, h1]
    · refine Ev.stepK (f := fun k => (anchor_mapOffset.f k xs o right).bind fun t107 => some (t107, 0)) (Ev.bind hm ?_) (fun k => ?_)
      · rw [if_neg h1]; exact Ev.now _
      · simp [anchor_Map.j0, h1]
  · simp only [h0, if_false]
    refine Ev.some' (fun k => ?_)
    simp [anchor_Map.j0, h0]
theorem MapRange_ev (xs : List S137) (hn : xs.length ≤ 1000000000000000) (hok : ∀ x ∈ xs, inI x.f0) (o o2 : Int) (ho : inI o) (ho2 : inI o2) (b : Bool) :
    Ev (fun k => anchor_MapRange.f k xs o o2 b) (if vv xs = 0 then (if o < 0 ∨ o2 < o then (0, 0, 1) else (mp xs o (!b), mx (mp xs o (!b)) (mp xs o2 b), 0)) else (0, 0, vv xs)) := by
  refine Ev.bind (validate_ev xs hn) ?_
  have j1no : ∀ e : Int, e ≠ 0 → Ev (fun k => anchor_MapRange.j1 k xs o o2 b e) (0, 0, e) := fun e he => Ev.some' (fun k => by simp [anchor_MapRange.j1, he])
  have j0yes : ∀ e : Int, Ev (fun k => anchor_MapRange.j0 k xs o o2 b e true) (0, 0, 1) := fun e => Ev.stepK (j1no 1 (by decide)) (fun k => by simp [anchor_MapRange.j0])
  by_cases h0 : vv xs = 0
  · simp only [h0, if_true]
    by_cases h1 : o < 0
    · simp only [h1, if_true, true_or]
      exact j0yes 0
    · simp only [h1, if_false, false_or]
      by_cases h2 : o2 < o
      · simp only [h2, if_true, decide_true]
        exact j0yes 0
      · simp only [h2, if_false, decide_false]
        refine Ev.stepK (f := fun k => anchor_MapRange.j1 k xs o o2 b 0) ?_ (fun k => by simp [anchor_MapRange.j0])
        refine Ev.stepK (f := fun k => (anchor_mapOffset.f k xs o (!b)).bind fun t109 => ((anchor_mapOffset.f k xs o2 b).bind fun t110 => (some (t109, mx t109 t110, 0)))) ?_ (fun k => by simp [anchor_MapRange.j1])
        exact Ev.bind (map_ev xs hn hok h0 o ho (!b)) (Ev.bind (map_ev xs hn hok h0 o2 ho2 b) (Ev.now _))
  · simp only [h0, if_false]
    exact Ev.stepK (j1no _ h0) (fun k => by simp [anchor_MapRange.j0])

/-- The offsets mapped, until one is negative. -/
def alls (xs : List S137) (b : Bool) : List Int → List Int → List Int × Int
  | out, [] => (out, 0)
  | out, x :: t => if x < 0 then ([], 1) else alls xs b (out ++ [mp xs x b]) t
theorem all_l0 (xs : List S137) (hn : xs.length ≤ 1000000000000000) (hok : ∀ x ∈ xs, inI x.f0) (h0 : vv xs = 0) (b : Bool) (os : List Int) (hos : os.length < 17592186044416) (hw : ∀ x ∈ os, inI x) :
    ∀ (t pre out : List Int), os = pre ++ t → out.length = pre.length → Ev (fun k => anchor_MapAll.l0 k xs b out os (os.length : Int) (pre.length : Int)) (alls xs b out t)
  | [], pre, out, h, hl => by
    have hl2 : os.length = pre.length := by rw [h]; simp
    refine Ev.some' (fun k => ?_)
    simp only [anchor_MapAll.l0]
    rw [if_neg (by omega)]
    rfl
  | x :: t, pre, out, h, hl => by
    have hl2 : os.length = pre.length + (t.length + 1) := by rw [h]; simp
    have hr : rd os (pre.length : Int) = x := by rw [h]; exact rd_mid _ _ _
    have next : (((pre ++ [x]).length : Nat) : Int) = wrap64 ((pre.length : Int) + 1) := by rw [wrap_id (by omega) (by omega)]; simp
    unfold alls
    by_cases h1 : x < 0
    · rw [if_pos h1]
      refine Ev.some' (fun k => ?_)
      simp only [anchor_MapAll.l0]
      rw [if_pos (by omega), if_pos (by omega), if_pos (by omega), hr, if_pos h1]
    · rw [if_neg h1]
      have ih := all_l0 xs hn hok h0 b os hos hw t (pre ++ [x]) (out ++ [mp xs x b]) (by rw [h]; simp) (by simp [hl])
      refine Ev.stepK (Ev.bind (f := fun k t113 => if out.length < 17592186044416 then anchor_MapAll.l0 k xs b (out ++ [t113]) os (os.length : Int) (wrap64 ((pre.length : Int) + 1)) else none) (map_ev xs hn hok h0 x (hw x (by rw [h]; simp)) b) (Ev.same ih (fun k => ?_))) (fun k => ?_)
      · rw [if_pos (by omega), next]
      · simp only [anchor_MapAll.l0]
        rw [if_pos (by omega), if_pos (by omega), if_pos (by omega), hr, if_neg h1]
theorem MapAll_ev (xs : List S137) (hn : xs.length ≤ 1000000000000000) (hok : ∀ x ∈ xs, inI x.f0) (b : Bool) (os : List Int) (hos : os.length < 17592186044416) (hw : ∀ x ∈ os, inI x) :
    Ev (fun k => anchor_MapAll.f k xs os b) (if vv xs = 0 then alls xs b [] os else ([], vv xs)) := by
  refine Ev.bind (validate_ev xs hn) ?_
  by_cases h0 : vv xs = 0
  · simp only [h0, if_true]
    exact all_l0 xs hn hok h0 b os hos hw os [] [] rfl rfl
  · simp only [h0, if_false]
    exact Ev.now _
theorem eq_l0 (a b : List Int) (hn : a.length ≤ 1000000000000000) (hl : a.length = b.length) : ∀ (t u pre pre' : List Int), a = pre ++ t → b = pre' ++ u → pre.length = pre'.length → t = u → Ev (fun k => glossatorref4_EqualInts.l0 k a b (pre.length : Int)) true
  | [], u, pre, pre', h, h', hp, ht => by
    refine Ev.some' (fun k => ?_)
    simp only [glossatorref4_EqualInts.l0]
    rw [if_neg (by rw [h]; simp)]
  | x :: t, u, pre, pre', h, h', hp, ht => by
    subst ht
    have hl2 : a.length = pre.length + (t.length + 1) := by rw [h]; simp
    have hr : rd a (pre.length : Int) = x := by rw [h]; exact rd_mid _ _ _
    have hr' : rd b (pre.length : Int) = x := by rw [h', hp]; exact rd_mid _ _ _
    have next : (((pre ++ [x]).length : Nat) : Int) = wrap64 ((pre.length : Int) + 1) := by rw [wrap_id (by omega) (by omega)]; simp
    have ih := eq_l0 a b hn hl t t (pre ++ [x]) (pre' ++ [x]) (by rw [h]; simp) (by rw [h']; simp) (by simp [hp]) rfl
    refine Ev.stepK ih (fun k => ?_)
    simp only [glossatorref4_EqualInts.l0]
    rw [if_pos (by omega), if_pos (by omega), if_pos (by omega), hr, hr', if_pos rfl, next]
theorem eq_ev (a : List Int) (hn : a.length ≤ 1000000000000000) : Ev (fun k => glossatorref4_EqualInts.f k a a) true := by
  have e := eq_l0 a a hn rfl a a [] [] rfl rfl rfl rfl
  refine Ev.same e (fun k => ?_)
  unfold glossatorref4_EqualInts.f
  rw [if_pos rfl]
  rfl
theorem examples_ev : Ev (fun k => glossatorlaw4_anchorExamples.f k) true :=
  Ev.of (k := 60) (fun k => glossatorlaw4_anchorExamples.mono k) (by decide +kernel)

/-! ### the law -/
theorem alls_len (xs : List S137) (b : Bool) : ∀ (t out : List Int), (alls xs b out t).1.length ≤ out.length + t.length
  | [], out => Nat.le_refl _
  | x :: t, out => by
    unfold alls
    split
    · simp
    · have := alls_len xs b t (out ++ [mp xs x b])
      simp at this ⊢
      omega
section
variable (xs : List S137) (b : Bool) (os : List Int) (x11 x12 x13 x14 x15 : Int) (x16 : List Int) (x17 : Int)
theorem fin_j7 (h16 : x16.length ≤ 1000000000000000) (i : Int) : Ev (fun k => glossatorlaw4_AnchorMapEqualsReference.j7 k xs b os x11 x12 x13 x14 x15 x16 x17 x12 x15 x17 x11 x13 x14 x16 i false) true := by
  refine Ev.stepK (Ev.bind (f := fun k t171 => if t171 = true then some (x17 == x17) else some false) (eq_ev x16 h16) ?_) (fun k => ?_)
  · simp only [if_true, beq_self_eq_true]
    exact Ev.now _
  · simp only [glossatorlaw4_AnchorMapEqualsReference.j7]
    simp only [Bool.false_eq_true, if_false, if_true]
theorem fin_l0_err (h16 : x16.length ≤ 1000000000000000) (i : Int) (h17 : x17 ≠ 0) : Ev (fun k => glossatorlaw4_AnchorMapEqualsReference.l0 k xs b os x11 x12 x13 x14 x15 x16 x17 x12 x15 x17 x11 x13 x14 x16 i) true := by
  have e := fin_j7 xs b os x11 x12 x13 x14 x15 x16 x17 h16 i
  refine Ev.stepK e (fun k => ?_)
  simp only [glossatorlaw4_AnchorMapEqualsReference.l0]
  have hz : (x17 == 0) = false := by simpa using h17
  rw [hz]
  split <;> rfl
theorem fin_l0 (hn : xs.length ≤ 1000000000000000) (hos : os.length < 17592186044416) (h16 : x16.length ≤ 1000000000000000) :
    ∀ (t pre out : List Int), os = pre ++ t → out.length = pre.length → alls xs b out t = (x16, x17) → Ev (fun k => glossatorlaw4_AnchorMapEqualsReference.l0 k xs b os x11 x12 x13 x14 x15 x16 x17 x12 x15 0 x11 x13 x14 out (pre.length : Int)) true
  | [], pre, out, h, hl, ha => by
    have hl2 : os.length = pre.length := by rw [h]; simp
    obtain ⟨rfl, rfl⟩ : out = x16 ∧ (0 : Int) = x17 := by
      unfold alls at ha
      exact Prod.mk.inj ha
    have e := fin_j7 xs b os x11 x12 x13 x14 x15 out 0 h16 (pre.length : Int)
    refine Ev.stepK e (fun k => ?_)
    simp only [glossatorlaw4_AnchorMapEqualsReference.l0]
    rw [if_neg (by omega)]
  | x :: t, pre, out, h, hl, ha => by
    have hl2 : os.length = pre.length + (t.length + 1) := by rw [h]; simp
    have hr : rd os (pre.length : Int) = x := by rw [h]; exact rd_mid _ _ _
    have next : (((pre ++ [x]).length : Nat) : Int) = wrap64 ((pre.length : Int) + 1) := by rw [wrap_id (by omega) (by omega)]; simp
    unfold alls at ha
    by_cases h1 : x < 0
    · rw [if_pos h1] at ha
      obtain ⟨rfl, rfl⟩ := Prod.mk.inj ha
      have e := fin_l0_err xs b os x11 x12 x13 x14 x15 [] 1 (by simp) (wrap64 ((pre.length : Int) + 1)) (by decide)
      have e2 : Ev (fun k => glossatorlaw4_AnchorMapEqualsReference.j7 k xs b os x11 x12 x13 x14 x15 [] 1 x12 x15 0 x11 x13 x14 out (pre.length : Int) true) true := by
        refine Ev.stepK e (fun k => ?_)
        simp only [glossatorlaw4_AnchorMapEqualsReference.j7]
        rw [if_pos trivial, if_pos (by omega), if_pos (by omega), hr, if_pos h1]
      refine Ev.stepK e2 (fun k => ?_)
      simp only [glossatorlaw4_AnchorMapEqualsReference.l0]
      rw [if_pos (by omega)]
      rfl
    · rw [if_neg h1] at ha
      have ih := fin_l0 hn hos h16 t (pre ++ [x]) (out ++ [mp xs x b]) (by rw [h]; simp) (by simp [hl]) ha
      have e2 : Ev (fun k => glossatorlaw4_AnchorMapEqualsReference.j7 k xs b os x11 x12 x13 x14 x15 x16 x17 x12 x15 0 x11 x13 x14 out (pre.length : Int) true) true := by
        refine Ev.stepK (Ev.bind (f := fun k t167 => if out.length < 17592186044416 then glossatorlaw4_AnchorMapEqualsReference.l0 k xs b os x11 x12 x13 x14 x15 x16 x17 x12 x15 0 x11 x13 x14 (out ++ [t167]) (wrap64 ((pre.length : Int) + 1)) else none) (ref_ev xs hn x b) (Ev.same ih (fun k => ?_))) (fun k => ?_)
        · rw [if_pos (by omega), next]
        · simp only [glossatorlaw4_AnchorMapEqualsReference.j7]
          rw [if_pos trivial, if_pos (by omega), if_pos (by omega), hr, if_neg h1]
      refine Ev.stepK e2 (fun k => ?_)
      simp only [glossatorlaw4_AnchorMapEqualsReference.l0]
      rw [if_pos (by omega)]
      rfl
end

theorem AnchorMapEqualsReference : glossatorlaw4_AnchorMapEqualsReference.Pure := by
  intro xs o o2 b os h0 h1 h2 h4
  have hn : xs.length ≤ 1000000000000000 := by omega
  have hos : os.length < 17592186044416 := by omega
  have hok : ∀ x ∈ xs, inI x.f0 := fun x hx => wf_i64 (h0.2 x hx).1
  have ho : inI o := wf_i64 h1
  have ho2 : inI o2 := wf_i64 h2
  have hw : ∀ x ∈ os, inI x := fun x hx => wf_i64 (h4.2 x hx)
  refine Ev.rounds (r := true) ?_
  refine Ev.bind examples_ev ?_
  simp only [if_true]
  refine Ev.bind (Map_ev xs hn hok o ho b) ?_
  refine Ev.bind (MapRange_ev xs hn hok o o2 ho ho2 b) ?_
  refine Ev.bind (MapAll_ev xs hn hok b os hos hw) ?_
  refine Ev.bind (order_ev xs hn) ?_
  by_cases hv : vv xs = 0
  · simp only [hv, if_true]
    have hl : (alls xs b [] os).1.length ≤ 1000000000000000 := by have := alls_len xs b os []; simp at this; omega
    have last := fun x11 x12 x13 x14 x15 => fin_l0 xs b os x11 x12 x13 x14 x15 (alls xs b [] os).1 (alls xs b [] os).2 hn hos hl os [] [] rfl rfl rfl
    have j5 : ∀ x11 x12 x13 x14 x15, Ev (fun k => glossatorlaw4_AnchorMapEqualsReference.j5 k xs b os x11 x12 x13 x14 x15 (alls xs b [] os).1 (alls xs b [] os).2 x12 x15 0 x11 x13 x14 []) true :=
      fun x11 x12 x13 x14 x15 => Ev.stepK (last x11 x12 x13 x14 x15) (fun k => by simp only [glossatorlaw4_AnchorMapEqualsReference.j5]; rfl)
    have j4 : ∀ x11 x12, ∀ c : Bool, c = decide (o < 0 ∨ o2 < o) → Ev (fun k => glossatorlaw4_AnchorMapEqualsReference.j4 k xs o o2 b os x11 x12 (if o < 0 ∨ o2 < o then (0, 0, 1) else (mp xs o (!b), mx (mp xs o (!b)) (mp xs o2 b), 0) : Int × Int × Int).1 (if o < 0 ∨ o2 < o then (0, 0, 1) else (mp xs o (!b), mx (mp xs o (!b)) (mp xs o2 b), 0) : Int × Int × Int).2.1 (if o < 0 ∨ o2 < o then (0, 0, 1) else (mp xs o (!b), mx (mp xs o (!b)) (mp xs o2 b), 0) : Int × Int × Int).2.2 (alls xs b [] os).1 (alls xs b [] os).2 x12 (if c = true then 1 else 0) 0 x11 0 0 []) true := by
      intro x11 x12 c hc
      subst hc
      by_cases hr : o < 0 ∨ o2 < o
      · simp only [hr, if_true, decide_true]
        exact Ev.stepK (j5 x11 x12 0 0 1) (fun k => by simp [glossatorlaw4_AnchorMapEqualsReference.j4])
      · simp only [hr, if_false, decide_false, Bool.false_eq_true]
        refine Ev.stepK (f := fun k => (glossatorref4_MapOffset.f k xs o (!b)).bind fun t163 => ((glossatorref4_MapOffset.f k xs o2 b).bind fun t164 => (glossatorlaw4_AnchorMapEqualsReference.j5 k xs b os x11 x12 (mp xs o (!b)) (mx (mp xs o (!b)) (mp xs o2 b)) 0 (alls xs b [] os).1 (alls xs b [] os).2 x12 0 0 x11 t163 (mx t163 t164) []))) (Ev.bind (ref_ev xs hn o (!b)) (Ev.bind (ref_ev xs hn o2 b) (j5 _ _ _ _ _))) (fun k => by simp [glossatorlaw4_AnchorMapEqualsReference.j4])
    by_cases hs : o < 0
    · have hd : decide (o < 0 ∨ o2 < o) = true := by simp [hs]
      have e4 := j4 0 1 true hd.symm
      simp only [hs, if_true, decide_true]
      simp only [hs, if_true, true_or] at e4
      refine Ev.stepK (f := fun k => glossatorlaw4_AnchorMapEqualsReference.j1 k xs o o2 b os 0 1 0 0 1 (alls xs b [] os).1 (alls xs b [] os).2 1 1 0 0 0 0 []) ?_ (fun k => by simp [glossatorlaw4_AnchorMapEqualsReference.j0, hs])
      refine Ev.stepK (f := fun k => glossatorlaw4_AnchorMapEqualsReference.j2 k xs o o2 b os 0 1 0 0 1 (alls xs b [] os).1 (alls xs b [] os).2 1 1 0 0 0 0 [] false) ?_ (fun k => by simp [glossatorlaw4_AnchorMapEqualsReference.j1])
      refine Ev.stepK (f := fun k => glossatorlaw4_AnchorMapEqualsReference.j3 k xs o o2 b os 0 1 0 0 1 (alls xs b [] os).1 (alls xs b [] os).2 1 1 0 0 0 0 []) ?_ (fun k => by simp [glossatorlaw4_AnchorMapEqualsReference.j2])
      exact Ev.stepK e4 (fun k => by simp [glossatorlaw4_AnchorMapEqualsReference.j3])
    · have e4 := j4 (mp xs o b) 0 (decide (o < 0 ∨ o2 < o)) rfl
      simp only [hs, if_false, decide_false, false_or] at e4 ⊢
      have j3 : ∀ p q r x20, Ev (fun k => glossatorlaw4_AnchorMapEqualsReference.j4 k xs o o2 b os (mp xs o b) 0 p q r (alls xs b [] os).1 (alls xs b [] os).2 0 x20 0 (mp xs o b) 0 0 []) true →
          Ev (fun k => glossatorlaw4_AnchorMapEqualsReference.j3 k xs o o2 b os (mp xs o b) 0 p q r (alls xs b [] os).1 (alls xs b [] os).2 0 x20 0 0 0 0 []) true := by
        intro p q r x20 e
        exact Ev.stepK (Ev.bind (f := fun k t162 => glossatorlaw4_AnchorMapEqualsReference.j4 k xs o o2 b os (mp xs o b) 0 p q r (alls xs b [] os).1 (alls xs b [] os).2 0 x20 0 t162 0 0 []) (ref_ev xs hn o b) e) (fun k => by simp [glossatorlaw4_AnchorMapEqualsReference.j3])
      refine Ev.stepK (f := fun k => glossatorlaw4_AnchorMapEqualsReference.j1 k xs o o2 b os (mp xs o b) 0 (if o2 < o then (0, 0, 1) else (mp xs o (!b), mx (mp xs o (!b)) (mp xs o2 b), 0) : Int × Int × Int).1 (if o2 < o then (0, 0, 1) else (mp xs o (!b), mx (mp xs o (!b)) (mp xs o2 b), 0) : Int × Int × Int).2.1 (if o2 < o then (0, 0, 1) else (mp xs o (!b), mx (mp xs o (!b)) (mp xs o2 b), 0) : Int × Int × Int).2.2 (alls xs b [] os).1 (alls xs b [] os).2 0 0 0 0 0 0 []) ?_ (fun k => by simp [glossatorlaw4_AnchorMapEqualsReference.j0, hs])
      refine Ev.stepK (f := fun k => glossatorlaw4_AnchorMapEqualsReference.j2 k xs o o2 b os (mp xs o b) 0 (if o2 < o then (0, 0, 1) else (mp xs o (!b), mx (mp xs o (!b)) (mp xs o2 b), 0) : Int × Int × Int).1 (if o2 < o then (0, 0, 1) else (mp xs o (!b), mx (mp xs o (!b)) (mp xs o2 b), 0) : Int × Int × Int).2.1 (if o2 < o then (0, 0, 1) else (mp xs o (!b), mx (mp xs o (!b)) (mp xs o2 b), 0) : Int × Int × Int).2.2 (alls xs b [] os).1 (alls xs b [] os).2 0 0 0 0 0 0 [] (decide (o2 < o))) ?_ (fun k => by simp [glossatorlaw4_AnchorMapEqualsReference.j1])
      refine Ev.stepK (j3 _ _ _ _ e4) (fun k => ?_)
      by_cases h2 : o2 < o <;> simp [glossatorlaw4_AnchorMapEqualsReference.j2, h2]
  · simp only [hv, if_false]
    have last := fin_l0_err xs b os 0 (vv xs) 0 0 (vv xs) [] (vv xs) (by simp) 0 hv
    refine Ev.stepK (f := fun k => glossatorlaw4_AnchorMapEqualsReference.j1 k xs o o2 b os 0 (vv xs) 0 0 (vv xs) [] (vv xs) (vv xs) (vv xs) (vv xs) 0 0 0 []) ?_ (fun k => by simp [glossatorlaw4_AnchorMapEqualsReference.j0])
    refine Ev.stepK (f := fun k => glossatorlaw4_AnchorMapEqualsReference.j2 k xs o o2 b os 0 (vv xs) 0 0 (vv xs) [] (vv xs) (vv xs) (vv xs) (vv xs) 0 0 0 [] false) ?_ (fun k => by simp [glossatorlaw4_AnchorMapEqualsReference.j1, hv])
    refine Ev.stepK (f := fun k => glossatorlaw4_AnchorMapEqualsReference.j3 k xs o o2 b os 0 (vv xs) 0 0 (vv xs) [] (vv xs) (vv xs) (vv xs) (vv xs) 0 0 0 []) ?_ (fun k => by simp [glossatorlaw4_AnchorMapEqualsReference.j2])
    refine Ev.stepK (f := fun k => glossatorlaw4_AnchorMapEqualsReference.j4 k xs o o2 b os 0 (vv xs) 0 0 (vv xs) [] (vv xs) (vv xs) (vv xs) (vv xs) 0 0 0 []) ?_ (fun k => by simp [glossatorlaw4_AnchorMapEqualsReference.j3, hv])
    refine Ev.stepK (f := fun k => glossatorlaw4_AnchorMapEqualsReference.j5 k xs b os 0 (vv xs) 0 0 (vv xs) [] (vv xs) (vv xs) (vv xs) (vv xs) 0 0 0 []) ?_ (fun k => by simp [glossatorlaw4_AnchorMapEqualsReference.j4, hv])
    exact Ev.stepK last (fun k => by simp only [glossatorlaw4_AnchorMapEqualsReference.j5])
end Go.Proofs.Ytbfedkmiekbcmaa.Pr
