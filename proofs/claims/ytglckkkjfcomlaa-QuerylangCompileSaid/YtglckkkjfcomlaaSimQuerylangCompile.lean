/-
  The interpreter and the reference's: on a valid query both come to the same number, and ask the same things in the same order.
-/
import Derived.Test.YtglckkkjfcomlaaEvQuerylangCompile
namespace Go.Proofs.Ytglckkkjfcomlaa.PrQuerylangCompile
open Go.RowKit Go.Proofs.YtglckkkjfcomlaaW.PrintWords Go.Proofs.YtglckkkjfcomlaaW.PrintLast Go.Proofs.YtglckkkjfcomlaaW.PrintMore Go.Proofs.Ytglckkkjfcomlaa.QQuerylangCompile Go.Proofs.Ytglckkkjfcomlaa.Aid
set_option linter.unusedSimpArgs false
set_option linter.unusedVariables false
def red (a : Int) : Int := if Int.tmod a 1000003 < 0 then Int.tmod a 1000003 + 1000003 else Int.tmod a 1000003
def inM (n : Int) : Prop := 0 ≤ n ∧ n < 1000003
theorem tmod_rng (a : Int) : -1000003 < Int.tmod a 1000003 ∧ Int.tmod a 1000003 < 1000003 := by
  constructor
  · have := Int.lt_tmod_of_pos a (b := 1000003) (by decide)
    omega
  · exact Int.tmod_lt_of_pos a (by decide)
theorem red_in (a : Int) : inM (red a) := by
  have := tmod_rng a
  unfold red inM
  split <;> omega
theorem reduce_eq (a : Int) : querylang_reduce.f a = some (red a) := by
  have := tmod_rng a
  unfold querylang_reduce.f red
  split
  · rw [wrap_id (by omega) (by omega)]
  · rfl
theorem mod_eq (a : Int) : glossatorref3_Mod.f a 1000003 = some (red a) := by
  have := tmod_rng a
  unfold glossatorref3_Mod.f red
  rw [if_neg (by decide)]
  split
  · rw [wrap_id (by omega) (by omega)]
  · rfl
theorem tmod_in {n : Int} {own : Nat} (h : inM n) (ho : 0 < own) : 0 ≤ Int.tmod n own ∧ Int.tmod n own < own :=
  ⟨Int.tmod_nonneg _ h.1, Int.tmod_lt_of_pos _ (by omega)⟩

/-- The stack as it stands in its 24 cells. -/
def Stk (zs st : List Int) : Prop := zs.length = 24 ∧ st.length ≤ 24 ∧ zs.take st.length = st ∧ ∀ x ∈ st, inM x
theorem stk_rd {zs st : List Int} (h : Stk zs st) {j : Nat} (hj : j < st.length) : rd zs (j : Int) = rd st (j : Int) := by
  unfold rd
  rw [Int.toNat_natCast, List.getD_eq_getElem?_getD, List.getD_eq_getElem?_getD]
  conv => rhs; rw [← h.2.2.1]
  rw [List.getElem?_take_of_lt hj]
theorem rd_snoc (s : List Int) (x : Int) : rd (s ++ [x]) (s.length : Int) = x := rd_mid s x []
theorem stk_top {zs s : List Int} {x : Int} (h : Stk zs (s ++ [x])) : topR zs (s ++ [x]).length 0 = x := by
  unfold topR
  rw [if_pos (by simp)]
  have e : (s ++ [x]).length - 1 - 0 = s.length := by simp
  rw [e, stk_rd h (by simp), rd_snoc]
theorem stk_top2 {zs s : List Int} {x y : Int} (h : Stk zs (s ++ [x] ++ [y])) : topR zs (s ++ [x] ++ [y]).length 1 = x := by
  unfold topR
  rw [if_pos (by simp)]
  have e : (s ++ [x] ++ [y]).length - 1 - 1 = s.length := by simp
  rw [e, stk_rd h (by simp)]
  have : s ++ [x] ++ [y] = s ++ x :: [y] := by simp
  rw [this]
  exact rd_mid s x [y]
theorem stk_push {zs s : List Int} {t : List Int} {n : Int} (h : Stk zs (s ++ t)) (hs : s.length < 24) (hn : inM n) : Stk (zs.set s.length n) (s ++ [n]) := by
  obtain ⟨h1, h2, h3, h4⟩ := h
  refine ⟨by rw [List.length_set]; exact h1, by simp; omega, ?_, ?_⟩
  · have hs2 : zs.take s.length = s := by
      have := congrArg (List.take s.length) h3
      rw [List.take_take, List.take_left, List.length_append, Nat.min_eq_left (by omega)] at this
      exact this
    have e : (s ++ [n]).length = s.length + 1 := by simp
    rw [e, List.take_add_one, List.take_set_of_le (Nat.le_refl _), hs2, List.getElem?_set_self (by omega)]
    rfl
  · intro x hx
    rcases List.mem_append.1 hx with hx | hx
    · exact h4 x (List.mem_append_left _ hx)
    · rw [List.mem_singleton] at hx; subst hx; exact hn
theorem popP_snoc (s : List Int) (x : Int) : popP (s ++ [x]) = some (x, s) := by
  unfold popP
  simp
theorem snoc_of {st : List Int} (h : 1 ≤ st.length) : ∃ s x, st = s ++ [x] := ⟨st.dropLast, st.getLast (by rintro rfl; simp at h), (List.dropLast_concat_getLast _).symm⟩

section
variable {σ σ' : Type} {G : σ → Int → Int → Int → Option (Int × σ)} {G' : σ' → Int → Int → Option (Int × Bool × σ')} {Rel : Nat → σ → σ' → Prop} {M : Nat} {a : Int} {l : List (List S160)} {own : Nat}
/-- What both are told of a key that may be read. -/
def Asks (G : σ → Int → Int → Int → Option (Int × σ)) (G' : σ' → Int → Int → Option (Int × Bool × σ')) (Rel : Nat → σ → σ' → Prop) (M : Nat) (a : Int) (own : Nat) : Prop :=
  (∀ m s s', Rel m s s' → Rel (m + 1) s s') ∧ ∀ m s s' k i, m < M → Rel m s s' → (k = 0 ∧ 0 ≤ i ∧ i < a ∨ k = 1 ∧ 0 ≤ i ∧ i < (own : Int)) → ∃ n s1 s1', G s k i 0 = some (n, s1) ∧ G' s' k i = some (n, true, s1') ∧ Rel (m + 1) s1 s1' ∧ inM n
theorem sim_step (HO : Asks G G' Rel M a own) (kf : Nat) {op : S160} {t : List S160} {st zs : List Int} {s : σ} {s' : σ'} (hc : chkOps a l (own : Int) (op :: t) (st.length : Int) = 0) (hz : Stk zs st) (hlen : st.length < 24) {m : Nat} (hm : m < M) (hR : Rel m s s') :
    ∃ st' zs' s1 s1', stepP G (kf + 1) (own : Int) op st s = some (st', s1) ∧ stepR G' (own : Int) op zs st.length s' = some (some (zs', st'.length), s1') ∧ Stk zs' st' ∧ Rel (m + 1) s1 s1' ∧ chkOps a l (own : Int) t (st'.length : Int) = 0 ∧ st'.length ≤ st.length + 1 := by
  rw [chkOps] at hc
  by_cases hk : op.f0 < 1 ∨ op.f0 > 11
  · rw [if_pos hk] at hc; cases hc
  rw [if_neg hk] at hc
  by_cases he : (eff a l (own : Int) op).2 = true
  case neg => rw [if_neg he] at hc; cases hc
  rw [if_pos he] at hc
  by_cases hd : (st.length : Int) < (eff a l (own : Int) op).1
  · rw [if_pos hd] at hc; cases hc
  rw [if_neg hd] at hc
  -- what is left on the stack, and what is pushed
  have fin : ∀ (base rest : List Int) (n : Int) (s1 : σ) (s1' : σ'), st = base ++ rest → (eff a l (own : Int) op).1 = rest.length → inM n → Rel (m + 1) s1 s1' →
      stepP G (kf + 1) (own : Int) op st s = some (base ++ [n], s1) → stepR G' (own : Int) op zs st.length s' = some (some (zs.set base.length n, base.length + 1), s1') →
      ∃ st' zs' s1 s1', stepP G (kf + 1) (own : Int) op st s = some (st', s1) ∧ stepR G' (own : Int) op zs st.length s' = some (some (zs', st'.length), s1') ∧ Stk zs' st' ∧ Rel (m + 1) s1 s1' ∧ chkOps a l (own : Int) t (st'.length : Int) = 0 ∧ st'.length ≤ st.length + 1 := by
    intro base rest n s1 s1' h1 h2 h3 h4 h5 h6
    have hb : base.length < 24 := by rw [h1] at hlen; simp at hlen; omega
    refine ⟨base ++ [n], zs.set base.length n, s1, s1', h5, ?_, ?_, h4, ?_, ?_⟩
    · rw [h6]; simp
    · rw [h1] at hz; exact stk_push hz hb h3
    · have e : (st.length : Int) - (eff a l (own : Int) op).1 + 1 = ((base ++ [n]).length : Int) := by rw [h2, h1]; simp
      rw [e] at hc
      exact hc
    · rw [h1]; simp
  have hstR : ∀ (x y kind idx res pops n : Int) (base : List Int) (s1' : σ'), topR zs st.length 1 = x → topR zs st.length 0 = y → selR (own : Int) op x y = some (kind, idx, res, pops) → (if kind ≥ 0 then G' s' kind idx else some (res, true, s')) = some (n, true, s1') →
      (st.length : Int) - pops = base.length → base.length < 24 → stepR G' (own : Int) op zs st.length s' = some (some (zs.set base.length n, base.length + 1), s1') := by
    intro x y kind idx res pops n base s1' h1 h2 h3 h4 h5 h6
    unfold stepR
    rw [h1, h2, h3]
    simp only [Option.bind_some]
    rw [h4]
    simp only [Option.bind_some]
    rw [if_pos trivial, h5, if_pos ⟨by omega, by omega⟩, Int.toNat_natCast]
  have hpu : ∀ (b : List Int) (n : Int) (q : σ), b.length < 24 → pushP b n q = some (b ++ [n], q) := by
    intro b n q hb
    unfold pushP
    rw [if_pos (by omega)]
  by_cases h1 : op.f0 = 1
  · have e : (eff a l (own : Int) op).1 = 0 := by unfold eff glossatorref3_effect.f; rw [if_pos h1]; rfl
    refine fin st [] (red op.f1) s s' (by simp) (by rw [e]; rfl) (red_in _) (HO.1 _ _ _ hR) ?_ ?_
    · unfold stepP
      rw [if_neg (by omega), Option.bind_some]
      have : querylang_operandKey.f (kf + 1) op.f0 op.f1 op.f2 (own : Int) 0 = some (0, 0, 0, false) := by
        unfold querylang_operandKey.f querylang_operandKey.j0
        simp [h1]
      rw [this, Option.bind_some, if_neg (by simp), if_pos h1, reduce_eq, Option.bind_some]
      exact hpu _ _ _ hlen
    · refine hstR _ _ (-1) 0 (red op.f1) 0 (red op.f1) st s' rfl rfl ?_ (by rw [if_neg (by decide)]) (by omega) hlen
      unfold selR
      rw [if_pos h1, mod_eq]; rfl
  by_cases h2 : op.f0 = 2
  · have e : (eff a l (own : Int) op).1 = 0 ∧ 0 ≤ op.f1 ∧ op.f1 < a := by
      unfold eff glossatorref3_effect.f at he ⊢
      rw [if_neg h1, if_pos h2] at he ⊢
      by_cases c1 : op.f2 = 0 <;> by_cases c2 : 0 ≤ op.f1 <;> simp [c1, c2] at he ⊢
      exact he
    obtain ⟨n, s1, s1', g1, g2, g3, g4⟩ := HO.2 m s s' 0 op.f1 hm hR (.inl ⟨rfl, e.2⟩)
    refine fin st [] n s1 s1' (by simp) (by rw [e.1]; rfl) g4 g3 ?_ ?_
    · unfold stepP
      rw [if_neg (by omega), Option.bind_some]
      have : querylang_operandKey.f (kf + 1) op.f0 op.f1 op.f2 (own : Int) 0 = some (0, op.f1, 0, true) := by
        unfold querylang_operandKey.f; rw [if_pos h2]
      rw [this, Option.bind_some, if_pos rfl, g1, Option.bind_some]
      exact hpu _ _ _ hlen
    · refine hstR _ _ 0 op.f1 0 0 n st s1' rfl rfl ?_ (by rw [if_pos (by decide)]; exact g2) (by omega) hlen
      unfold selR
      rw [if_neg h1, if_pos h2]
  by_cases h3 : op.f0 = 3
  · have e : (eff a l (own : Int) op).1 = 0 ∧ 0 ≤ op.f1 ∧ op.f1 < own := by
      unfold eff glossatorref3_effect.f at he ⊢
      rw [if_neg h1, if_neg h2, if_pos h3] at he ⊢
      by_cases c1 : op.f2 = 0 <;> by_cases c2 : 0 ≤ op.f1 <;> simp [c1, c2] at he ⊢
      exact he
    obtain ⟨n, s1, s1', g1, g2, g3, g4⟩ := HO.2 m s s' 1 op.f1 hm hR (.inr ⟨rfl, e.2⟩)
    refine fin st [] n s1 s1' (by simp) (by rw [e.1]; rfl) g4 g3 ?_ ?_
    · unfold stepP
      rw [if_neg (by omega), Option.bind_some]
      have : querylang_operandKey.f (kf + 1) op.f0 op.f1 op.f2 (own : Int) 0 = some (1, op.f1, 0, true) := by
        unfold querylang_operandKey.f; rw [if_neg h2, if_pos h3]
      rw [this, Option.bind_some, if_pos rfl, g1, Option.bind_some]
      exact hpu _ _ _ hlen
    · refine hstR _ _ 1 op.f1 0 0 n st s1' rfl rfl ?_ (by rw [if_pos (by decide)]; exact g2) (by omega) hlen
      unfold selR
      rw [if_neg h1, if_neg h2, if_pos h3]
  by_cases h4 : op.f0 = 4
  · have e : (eff a l (own : Int) op).1 = 1 ∧ 0 < own := by
      unfold eff glossatorref3_effect.f at he ⊢
      rw [if_neg h1, if_neg h2, if_neg h3, if_pos h4] at he ⊢
      by_cases c1 : (own : Int) > 0
      · rw [if_pos c1] at he ⊢
        refine ⟨?_, by omega⟩
        by_cases c2 : op.f1 = 0 <;> simp [c2]
      · rw [if_neg c1] at he; cases he
    obtain ⟨b, x, rfl⟩ := snoc_of (st := st) (by omega)
    have hx : inM x := hz.2.2.2 x (by simp)
    have hb : b.length < 24 := by simp at hlen; omega
    have hidx := tmod_in hx e.2
    obtain ⟨n, s1, s1', g1, g2, g3, g4⟩ := HO.2 m s s' 1 (Int.tmod x own) hm hR (.inr ⟨rfl, hidx⟩)
    refine fin b [x] n s1 s1' rfl (by rw [e.1]; rfl) g4 g3 ?_ ?_
    · unfold stepP
      rw [if_pos (.inl h4), popP_snoc, Option.bind_some]
      have : querylang_operandKey.f (kf + 1) op.f0 op.f1 op.f2 (own : Int) x = some (1, Int.tmod x own, 0, true) := by
        unfold querylang_operandKey.f; rw [if_neg h2, if_neg h3, if_pos h4, if_neg (by omega)]
      simp only []
      rw [this, Option.bind_some, if_pos rfl, g1, Option.bind_some]
      exact hpu _ _ _ hb
    · refine hstR _ x 1 (Int.tmod x own) 0 1 n b s1' rfl (stk_top hz) ?_ (by rw [if_pos (by decide)]; exact g2) (by simp) hb
      unfold selR
      rw [if_neg h1, if_neg h2, if_neg h3, if_pos h4, if_neg (by omega)]
  by_cases h5 : op.f0 = 5
  · have e : (eff a l (own : Int) op).1 = 1 ∧ (0 ≤ op.f1 ∧ op.f1 < own) ∧ (0 ≤ op.f2 ∧ op.f2 < own) := by
      unfold eff glossatorref3_effect.f at he ⊢
      rw [if_neg h1, if_neg h2, if_neg h3, if_neg h4, if_pos h5] at he ⊢
      by_cases c1 : 0 ≤ op.f1 <;> by_cases c2 : op.f1 < own <;> by_cases c3 : 0 ≤ op.f2 <;> simp [c1, c2, c3] at he ⊢
      exact he
    obtain ⟨b, x, rfl⟩ := snoc_of (st := st) (by omega)
    have hx : inM x := hz.2.2.2 x (by simp)
    have hb : b.length < 24 := by simp at hlen; omega
    by_cases cx : x = 0
    · obtain ⟨n, s1, s1', g1, g2, g3, g4⟩ := HO.2 m s s' 1 op.f2 hm hR (.inr ⟨rfl, e.2.2⟩)
      refine fin b [x] n s1 s1' rfl (by rw [e.1]; rfl) g4 g3 ?_ ?_
      · unfold stepP
        rw [if_pos (.inr h5), popP_snoc, Option.bind_some]
        have : querylang_operandKey.f (kf + 1) op.f0 op.f1 op.f2 (own : Int) x = some (1, op.f2, 0, true) := by
          unfold querylang_operandKey.f querylang_operandKey.j0; rw [if_neg h2, if_neg h3, if_neg h4, if_pos h5]; simp [cx, h5]
        simp only []
        rw [this, Option.bind_some, if_pos rfl, g1, Option.bind_some]
        exact hpu _ _ _ hb
      · refine hstR _ x 1 op.f2 0 1 n b s1' rfl (stk_top hz) ?_ (by rw [if_pos (by decide)]; exact g2) (by simp) hb
        unfold selR
        rw [if_neg h1, if_neg h2, if_neg h3, if_neg h4, if_pos h5, if_pos cx]
    · obtain ⟨n, s1, s1', g1, g2, g3, g4⟩ := HO.2 m s s' 1 op.f1 hm hR (.inr ⟨rfl, e.2.1⟩)
      refine fin b [x] n s1 s1' rfl (by rw [e.1]; rfl) g4 g3 ?_ ?_
      · unfold stepP
        rw [if_pos (.inr h5), popP_snoc, Option.bind_some]
        have : querylang_operandKey.f (kf + 1) op.f0 op.f1 op.f2 (own : Int) x = some (1, op.f1, 0, true) := by
          unfold querylang_operandKey.f querylang_operandKey.j0; rw [if_neg h2, if_neg h3, if_neg h4, if_pos h5]; simp [cx]
        simp only []
        rw [this, Option.bind_some, if_pos rfl, g1, Option.bind_some]
        exact hpu _ _ _ hb
      · refine hstR _ x 1 op.f1 0 1 n b s1' rfl (stk_top hz) ?_ (by rw [if_pos (by decide)]; exact g2) (by simp) hb
        unfold selR
        rw [if_neg h1, if_neg h2, if_neg h3, if_neg h4, if_pos h5, if_neg cx]
  -- the binary ones
  have e : (eff a l (own : Int) op).1 = 2 := by
    unfold eff glossatorref3_effect.f
    rw [if_neg h1, if_neg h2, if_neg h3, if_neg h4, if_neg h5]
    by_cases c1 : op.f1 = 0 <;> simp [c1]
  obtain ⟨b1, y, rfl⟩ := snoc_of (st := st) (by omega)
  obtain ⟨b, x, rfl⟩ := snoc_of (st := b1) (by simp at hd; omega)
  have hx : inM x := hz.2.2.2 x (by simp)
  have hy : inM y := hz.2.2.2 y (by simp)
  have hb : b.length < 24 := by simp at hlen; omega
  have hkey : querylang_operandKey.f (kf + 1) op.f0 op.f1 op.f2 (own : Int) 0 = some (0, 0, 0, false) := by
    unfold querylang_operandKey.f querylang_operandKey.j0
    simp [h2, h3, h4, h5]
  have both : ∀ n : Int, inM n → querylang_binary.f op.f0 x y = some n → selR (own : Int) op x y = some (-1, 0, n, 2) →
      ∃ st' zs' s1 s1', stepP G (kf + 1) (own : Int) op (b ++ [x] ++ [y]) s = some (st', s1) ∧ stepR G' (own : Int) op zs (b ++ [x] ++ [y]).length s' = some (some (zs', st'.length), s1') ∧ Stk zs' st' ∧ Rel (m + 1) s1 s1' ∧ chkOps a l (own : Int) t (st'.length : Int) = 0 ∧ st'.length ≤ (b ++ [x] ++ [y]).length + 1 := by
    intro n hn hb1 hs1
    refine fin b [x, y] n s s' (by simp) (by rw [e]; rfl) hn (HO.1 _ _ _ hR) ?_ ?_
    · unfold stepP
      rw [if_neg (by omega), Option.bind_some]
      simp only []
      rw [hkey, Option.bind_some, if_neg (by simp), if_neg h1, popP_snoc, Option.bind_some]
      simp only []
      rw [popP_snoc, Option.bind_some]
      simp only []
      rw [hb1, Option.bind_some]
      exact hpu _ _ _ hb
    · exact hstR x y (-1) 0 n 2 n b s' (stk_top2 hz) (stk_top hz) hs1 (by rw [if_neg (by decide)]) (by simp) hb
  have hsel0 : ∀ q : Option (Int × Int × Int × Int), (if op.f0 = 6 then (glossatorref3_Mod.f (wrap64 (x + y)) 1000003).map (fun r => ((-1 : Int), (0 : Int), r, (2 : Int)))
      else if op.f0 = 7 then (glossatorref3_Mod.f (wrap64 (x - y)) 1000003).map (fun r => (-1, 0, r, 2))
      else if op.f0 = 8 then (glossatorref3_Mod.f (wrap64 (x * y)) 1000003).map (fun r => (-1, 0, r, 2))
      else if op.f0 = 9 then some (-1, 0, mn x y, 2)
      else if op.f0 = 10 then some (-1, 0, mx x y, 2)
      else some (-1, 0, if x < y then 1 else 0, 2)) = q → selR (own : Int) op x y = q := by
    intro q h
    unfold selR
    rw [if_neg h1, if_neg h2, if_neg h3, if_neg h4, if_neg h5]
    exact h
  by_cases h6 : op.f0 = 6
  · exact both (red (wrap64 (x + y))) (red_in _) (by unfold querylang_binary.f; rw [if_pos h6, reduce_eq]; rfl) (hsel0 _ (by rw [if_pos h6, mod_eq]; rfl))
  by_cases h7 : op.f0 = 7
  · exact both (red (wrap64 (x - y))) (red_in _) (by unfold querylang_binary.f; rw [if_neg h6, if_pos h7, reduce_eq]; rfl) (hsel0 _ (by rw [if_neg h6, if_pos h7, mod_eq]; rfl))
  by_cases h8 : op.f0 = 8
  · exact both (red (wrap64 (x * y))) (red_in _) (by unfold querylang_binary.f; rw [if_neg h6, if_neg h7, if_pos h8, reduce_eq]; rfl) (hsel0 _ (by rw [if_neg h6, if_neg h7, if_pos h8, mod_eq]; rfl))
  by_cases h9 : op.f0 = 9
  · exact both (mn x y) (by unfold mn; split <;> assumption) (by unfold querylang_binary.f; rw [if_neg h6, if_neg h7, if_neg h8, if_pos h9]) (hsel0 _ (by rw [if_neg h6, if_neg h7, if_neg h8, if_pos h9]))
  by_cases h10 : op.f0 = 10
  · exact both (mx x y) (by unfold mx; split <;> assumption) (by unfold querylang_binary.f; rw [if_neg h6, if_neg h7, if_neg h8, if_neg h9, if_pos h10]) (hsel0 _ (by rw [if_neg h6, if_neg h7, if_neg h8, if_neg h9, if_pos h10]))
  · refine both (if x < y then 1 else 0) (by unfold inM; split <;> omega) ?_ (hsel0 _ (by rw [if_neg h6, if_neg h7, if_neg h8, if_neg h9, if_neg h10]))
    unfold querylang_binary.f
    rw [if_neg h6, if_neg h7, if_neg h8, if_neg h9, if_neg h10]
    split <;> rfl
theorem sim (HO : Asks G G' Rel M a own) (kf : Nat) : ∀ (t : List S160) (st zs : List Int) (s : σ) (s' : σ'), chkOps a l (own : Int) t (st.length : Int) = 0 → Stk zs st → st.length + t.length < 24 → ∀ m, m + t.length ≤ M → Rel m s s' →
    ∃ n s1 s1', runL G (kf + 1) (own : Int) t st s = some (n, s1) ∧ execR G' (own : Int) t zs st.length s' = some (n, true, s1') ∧ Rel (m + t.length) s1 s1' ∧ inM n
  | [], st, zs, s, s', hc, hz, hl, m, hm, hR => by
    rw [chkOps] at hc
    by_cases c : (st.length : Int) = 1
    · obtain ⟨b, x, rfl⟩ := snoc_of (st := st) (by omega)
      have hb : b = [] := List.eq_nil_of_length_eq_zero (by simp at c; omega)
      subst hb
      refine ⟨x, s, s', rfl, ?_, hR, hz.2.2.2 x (by simp)⟩
      have h0 := stk_rd hz (j := 0) (by simp)
      have h1 : rd ([] ++ [x]) ((0 : Nat) : Int) = x := rfl
      rw [h1] at h0
      show some (rd zs 0, true, s') = _
      rw [show rd zs 0 = rd zs ((0 : Nat) : Int) from rfl, h0]
    · rw [if_neg c] at hc; cases hc
  | op :: t, st, zs, s, s', hc, hz, hl, m, hm, hR => by
    obtain ⟨st', zs', s1, s1', h1, h2, h3, h4, h5, h6⟩ := sim_step HO kf hc hz (by simp at hl; omega) (by simp at hm; omega) hR
    obtain ⟨n, s2, s2', g1, g2, g3, g4⟩ := sim HO kf t st' zs' s1 s1' h5 h3 (by simp at hl; omega) (m + 1) (by simp at hm; omega) h4
    refine ⟨n, s2, s2', ?_, ?_, by rw [List.length_cons, show m + (t.length + 1) = m + 1 + t.length by omega]; exact g3, g4⟩
    · rw [runL, h1]; exact g1
    · rw [execR, h2]; exact g2
end

theorem chkQs_all {a : Int} {l : List (List S160)} : ∀ {t : List (List S160)} {i : Nat}, chkQs a l i t = 0 → ∀ (j : Nat) q, t[j]? = some q → chkOps a l ((i + j : Nat) : Int) q 0 = 0
  | [], i, h, j, q, hj => by simp at hj
  | p :: t, i, h, j, q, hj => by
    rw [chkQs] at h
    by_cases c : chkOps a l (i : Int) p 0 = 0
    · rw [if_pos c] at h
      cases j with
      | zero => simp at hj; subst hj; exact c
      | succ j =>
        have := chkQs_all h j q (by simpa using hj)
        rw [show i + (j + 1) = i + 1 + j by omega]
        exact this
    · rw [if_neg c] at h; exact absurd h c
theorem chkP_ok {a : Int} {l : List (List S160)} (h : chkP a l = 0) : l.length ≤ 40 ∧ (∀ q ∈ l, q.length ≤ 20) ∧ 0 ≤ a ∧ chkQs a l 0 l = 0 := by
  unfold chkP at h
  split at h
  · cases h
  · next h1 =>
    split at h
    · cases h
    · next h2 =>
      simp only [Bool.or_eq_true, decide_eq_true_eq, not_or] at h1
      refine ⟨by omega, fun q hq => ?_, by omega, h⟩
      have h3 := h1.2
      unfold large at h3
      rw [List.any_eq_true] at h3
      have : ¬ (q.length : Int) > 20 := fun e => h3 ⟨q, hq, by simp [e]⟩
      omega
theorem stk_zero : Stk zeros24 [] := ⟨rfl, by decide, rfl, fun x hx => by cases hx⟩
end Go.Proofs.Ytglckkkjfcomlaa.PrQuerylangCompile
