/-
  append to a slice that has no room left and may be anybody's: a new row of one's own.
-/
import Derived.Test.YtofonbfpjfabbaaWMore
import Derived.ArgAppend
namespace Go.Proofs.Ytofonbfpjfabbaa.Hand
open Go.RowKit Go.Proofs.YtofonbfpjfabbaaW.PrintWords Go.Proofs.YtofonbfpjfabbaaW.PrintLast Go.Proofs.YtofonbfpjfabbaaW.PrintMore
theorem reps_append {α : Type} {R : α → List Value → Prop} {size : Nat} {ps qs : List α} {cs ds : List Value} (h : Reps R size ps cs) (k : Reps R size qs ds) : Reps R size (ps ++ qs) (cs ++ ds) := by
  refine ⟨by rw [List.length_append, List.length_append, h.1, k.1, Nat.add_mul], fun j p hp => ?_⟩
  rcases Nat.lt_or_ge j ps.length with hj | hj
  · rw [List.getElem?_append_left hj] at hp
    have := h.2 j p hp
    have hle : j * size + size ≤ cs.length := by
      rw [h.1, ← Nat.succ_mul]
      exact Nat.mul_le_mul_right _ hj
    rwa [List.drop_append_of_le_length (by omega), List.take_append_of_le_length (by rw [List.length_drop]; omega)]
  · rw [List.getElem?_append_right hj] at hp
    have := k.2 (j - ps.length) p hp
    have e : j * size = cs.length + (j - ps.length) * size := by
      rw [h.1, ← Nat.add_mul]
      congr 1
      omega
    rw [e, ← List.drop_drop, List.drop_left]
    exact this
theorem run_append_full {P : Program} {α : Type} (d : Kd α) {W : World} (t ty e : TypeId) (z : Value) (bytes : Nat)
    (ht : P.underlying t = some (.slice e)) (hinfo : (P.info? e).map (fun i => (i.zero, i.size, i.bytes)) = some (some z, d.sz, bytes)) (hz : z.cells.size = d.sz) (hs0 : 0 < d.sz)
    (A : Option Addr) (n cap : Nat) (xs : List α) (B : Option Addr) (m c : Nat) (ys : List α) (hA : d.C W A n xs) (hB : d.C W B m ys) (hsc : ∀ (W' : World) (base : Nat) (ok : Nat → Prop) (x : α) (cs : List Value), d.K W x cs → d.M W' base ok x cs)
    (hm : 0 < m) (hfull : cap < n + m) (hnone : A = none → n = 0 ∧ cap = 0) (hl : (n + m) * bytes ≤ 140737488355328) (hmx : n + m ≤ 140737488355328) (ok : Nat → Prop) (hok : ∀ k, W.heap.size ≤ k → ok k) :
    ∃ v1 w1, (Builtin.append_ #[t, t] ty #[.slice A n cap, .slice B m c]).run P W = .ok v1 w1 ∧ d.R e w1 W.heap.size ok v1 (xs ++ ys) ∧ W.grownBy w1 none := by
  obtain ⟨i0, hi, hzz⟩ := Option.map_eq_some_iff.1 hinfo
  simp only [Prod.mk.injEq] at hzz
  obtain ⟨hz0, hz1, hz2⟩ := hzz
  obtain ⟨ad, rfl, _⟩ := hB.2.2 hm
  obtain ⟨news, hnr, hnc⟩ := ReadsRow.inner_ hB
  have hnl : news.length = m * d.sz := by rw [hnr.1, hB.1]
  have hbig : n + m ≤ maxLen := by unfold maxLen; omega
  have key : ∃ olds v1 w1, Reps (d.K W) d.sz xs olds ∧ (Builtin.append_ #[t, t] ty #[.slice A n cap, .slice (some ad) m c]).run P W = .ok v1 w1 ∧ w1.ownsRow W.heap.size e d.sz v1 (n + m) (olds ++ news) ∧ W.grownBy w1 none := by
    cases A with
    | some b =>
      obtain ⟨olds, hor, hoc⟩ := ReadsRow.inner_ hA
      have hol : olds.length = n * d.sz := by rw [hor.1, hA.1]
      obtain ⟨v1, w1, h1, h2, h3⟩ := run_append_arg_grows (P := P) W t ty e i0 z d.sz bytes ht hi hz0 hz1 hz2 hz hs0 b n cap olds hol hoc ad m c news hnl hnc hfull hbig hl
      exact ⟨olds, v1, w1, hor, h1, h2, h3⟩
    | none =>
      obtain ⟨rfl, rfl⟩ := hnone rfl
      have hx : xs = [] := List.eq_nil_of_length_eq_zero hA.1
      subst hx
      have hone : ∀ u ∈ news, u.oneCell' = true := by
        intro u hu
        obtain ⟨q, hq, rfl⟩ := List.mem_iff_getElem.1 hu
        have hql : q / d.sz < ys.length := by
          rw [Nat.div_lt_iff_lt_mul hs0, ← hnr.1]
          exact hq
        have hc := hnr.2 (q / d.sz) _ (List.getElem?_eq_getElem hql)
        refine d.K_one hc _ ?_
        refine List.mem_iff_getElem?.2 ⟨q % d.sz, ?_⟩
        rw [List.getElem?_take, if_pos (Nat.mod_lt _ hs0), List.getElem?_drop]
        have e : q / d.sz * d.sz + q % d.sz = q := by rw [Nat.mul_comm]; exact Nat.div_add_mod q d.sz
        rw [e]
        exact List.getElem?_eq_getElem hq
      obtain ⟨v1, w1, h1, h2, h3, _⟩ := run_append_own (P := P) W W.heap.size t ty e i0 z d.sz bytes ht hi hz0 hz1 hz2 hz hs0 (.slice none 0 0) 0 [] (World.ownsRow_nil W _ e d.sz) ad m c news hnl hnc hone hbig hl (Nat.le_refl _)
      exact ⟨[], v1, w1, Reps.none _ _, h1, h2, h3⟩
  obtain ⟨olds, v1, w1, hor, h1, h2, h3⟩ := key
  have hxy : n + m = (xs ++ ys).length := by rw [List.length_append, hA.1, hB.1]
  refine ⟨v1, w1, h1, ⟨fun k hk => hok k ?_, olds ++ news, by rw [← hxy]; exact h2, ?_⟩, h3⟩
  · rcases h2.2 with ⟨rfl, _⟩ | ⟨g, cap', cur, rfl, hg, _⟩
    · cases hk
    · have : g = k := by simpa [Value.ownBlock] using hk
      omega
  · exact (reps_append hor hnr).imp_ (fun p cs hp => hsc _ _ _ _ _ hp)
end Go.Proofs.Ytofonbfpjfabbaa.Hand
