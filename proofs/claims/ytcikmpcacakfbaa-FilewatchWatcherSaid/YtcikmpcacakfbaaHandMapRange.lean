/-
  A range over a map, the map told as a list: which of its entries have been handed out, in whatever order.
-/
import Derived.Test.YtcikmpcacakfbaaHandMap
import Derived.Test.YtcikmpcacakfbaaHandChg
import Derived.Maps.RangeRun
namespace Go.Proofs.Ytcikmpcacakfbaa.Hand
open Go.RowKit
open Go.ChangeMaps (setBlock)
set_option linter.unusedVariables false
set_option linter.unusedSimpArgs false
set_option linter.unusedSectionVars false
/-- How many places are left. -/
def lft {α : Type} (m : List α) (ix : List Nat) : Nat := ((List.range m.length).filter (fun i => !ix.contains i)).length
theorem lft_nil {α : Type} (m : List α) (ix : List Nat) (h : ∀ i, i < m.length → i ∈ ix) : lft m ix = 0 := by
  unfold lft
  rw [List.length_eq_zero_iff, List.filter_eq_nil_iff]
  intro i hi
  have := h i (List.mem_range.1 hi)
  simp [this]
theorem lft_cons {α : Type} (m : List α) (ix : List Nat) (i : Nat) (h : i < m.length) (hn : i ∉ ix) : lft m (i :: ix) < lft m ix := by
  unfold lft
  refine filter_lt _ _ (fun x hx => ?_) i (by simpa using hn) (by simp) _ (List.mem_range.2 h)
  simp only [List.contains_cons, Bool.not_or, Bool.and_eq_true] at hx
  exact hx.2
section
variable {κ : Type} {enc : κ → Value} {W W' : World} {r b : Nat} {m : List (κ × Value)} {ix : List Nat} {P : Program}
/-- Block r is a range over the map of block b, which holds m; the places ix have been handed out. -/
def Itr (enc : κ → Value) (W : World) (r b : Nat) (m : List (κ × Value)) (ix : List Nat) : Prop :=
  ∃ es clock since c0 seen, W.heap[r]? = some (.mapIter (some b) since seen c0) ∧ W.heap[b]? = some (.map es clock) ∧ es.toList.map (·.key) = m.map (fun p => enc p.1) ∧ es.toList.map (·.val) = m.map (·.2) ∧ es.toList.Pairwise (fun x y => x.born < y.born) ∧
    (∀ x ∈ es.toList, x.born < since) ∧ since ≤ c0 ∧ since ≤ clock ∧ ∀ i e, es.toList[i]? = some e → (seen.contains e.born = true ↔ i ∈ ix)
theorem Itr.lt (h : Itr enc W r b m ix) : r < W.heap.size := by
  obtain ⟨es, clock, since, c0, seen, hr, _⟩ := h
  exact lt_of_blk hr
theorem Itr.move (h : Itr enc W r b m ix) (h1 : W'.heap[r]? = W.heap[r]?) (h2 : W'.heap[b]? = W.heap[b]?) : Itr enc W' r b m ix := by
  obtain ⟨es, clock, since, c0, seen, hr, hb, t⟩ := h
  exact ⟨es, clock, since, c0, seen, h1.trans hr, h2.trans hb, t⟩
theorem MapIs.range {t k e : TypeId} (h : MapIs enc W b m) (ht : P.underlying t = some (.map k e)) :
    ∃ c, (Instr.range t (.map (some b))).run P W = .ok (.pointer (some ⟨W.heap.size, 0, none⟩)) (W.alloc (.mapIter (some b) c #[] c)) ∧ Itr enc (W.alloc (.mapIter (some b) c #[] c)) W.heap.size b m [] := by
  obtain ⟨es, clock, hb, h1, h2, h3, h4⟩ := h
  exact ⟨clock, run_range_map W t k e b es clock ht hb, es, clock, clock, clock, #[], hb_new W _, hb_alloc hb, h1, h2, h3, h4, Nat.le_refl _, Nat.le_refl _, fun i e _ => by simp⟩
theorem born_nodup {l : List MapEntry} (h : l.Pairwise (fun x y => x.born < y.born)) : (l.map (·.born)).Nodup := by
  rw [List.Nodup, List.pairwise_map]
  exact h.imp (fun h e => by omega)
theorem born_at {l : List MapEntry} (h : l.Pairwise (fun x y => x.born < y.born)) {i j : Nat} {x y : MapEntry} (hi : l[i]? = some x) (hj : l[j]? = some y) (e : x.born = y.born) : i = j := by
  obtain ⟨h1, rfl⟩ := List.getElem?_eq_some_iff.1 hi
  obtain ⟨h2, rfl⟩ := List.getElem?_eq_some_iff.1 hj
  rw [List.pairwise_iff_getElem] at h
  rcases Nat.lt_trichotomy i j with c | c | c
  · have := h i j h1 h2 c; omega
  · exact c
  · have := h j i h2 h1 c; omega
theorem Itr.next (h : Itr enc W r b m ix) (ty : TypeId) :
    ((∀ i, i < m.length → i ∈ ix) ∧ (Instr.next (.pointer (some ⟨r, 0, none⟩)) false ty).run P W = .ok (.tuple #[.bool false]) W) ∨
    ∃ i p W', i ∉ ix ∧ m[i]? = some p ∧ (Instr.next (.pointer (some ⟨r, 0, none⟩)) false ty).run P W = .ok (.tuple #[.bool true, enc p.1, p.2]) W' ∧ Itr enc W' r b m (i :: ix) ∧ Chg (fun k => k = r) W W' ∧
      ∀ W2 : World, W2.heap[r]? = W'.heap[r]? → W2.heap[b]? = W'.heap[b]? → (Instr.entry (.pointer (some ⟨r, 0, none⟩))).run P W2 = .ok (.tuple #[enc p.1, p.2]) W2 := by
  obtain ⟨es, clock, since, c0, seen, hr, hb, h1, h2, h3, h4, h5, h6, h7⟩ := h
  have hlen : es.toList.length = m.length := by simpa using congrArg List.length h2
  rcases run_next_at (P := P) W ty r b since c0 seen es clock hr hb h4 h5 with ⟨h0, hrun⟩ | ⟨e, he, w1, hw1, hrun⟩
  · refine .inl ⟨fun i hi => ?_, hrun⟩
    have hx : es.toList[i]? = some (es.toList[i]'(by omega)) := List.getElem?_eq_getElem _
    exact (h7 i _ hx).1 (all_seen es seen h0 _ (List.getElem_mem _))
  · obtain ⟨hm, hs⟩ := mem_left he
    obtain ⟨i, hi, hie⟩ := List.mem_iff_getElem.1 hm
    have hi2 : es.toList[i]? = some e := by rw [List.getElem?_eq_getElem hi, hie]
    have q1 := congrArg (fun l => l[i]?) h1
    have q2 := congrArg (fun l => l[i]?) h2
    simp only [List.getElem?_map, hi2, Option.map_some] at q1 q2
    obtain ⟨p, hp⟩ : ∃ p, m[i]? = some p := ⟨m[i]'(by omega), List.getElem?_eq_getElem _⟩
    rw [hp] at q1 q2
    simp only [Option.map_some, Option.some.injEq] at q1 q2
    have hne : b ≠ r := by rintro rfl; rw [hb] at hr; cases hr
    have hrw : ∀ (o : Obj), (setBlock w1 r o).heap[r]? = some o := fun o => by
      have : r < w1.heap.size := by rcases hw1 with rfl | rfl <;> exact lt_of_blk hr
      simp [setBlock, this]
    have hoth : ∀ (o : Obj) k, k ≠ r → (setBlock w1 r o).heap[k]? = W.heap[k]? := fun o k hk => by
      have : w1.heap = W.heap := by rcases hw1 with rfl | rfl <;> rfl
      simp only [setBlock, this]
      rw [Array.getElem?_setIfInBounds_ne (Ne.symm hk)]
    have hbb : (setBlock w1 r (.mapIter (some b) since (seen.push e.born) clock)).heap[b]? = some (.map es clock) := (hoth _ b hne).trans hb
    refine .inr ⟨i, p, _, fun hc => ?_, hp, by rw [hrun, q1, q2], ⟨es, clock, since, clock, seen.push e.born, hrw _, hbb, h1, h2, h3, h4, h6, h6, fun j x hx => ?_⟩, ?_, fun W2 g1 g2 => ?_⟩
    · rw [(h7 i e hi2).2 hc] at hs
      cases hs
    · rw [contains_push, Bool.or_eq_true, h7 j x hx, List.mem_cons, beq_iff_eq]
      constructor
      · rintro (c | c)
        · exact .inr c
        · exact .inl (born_at h3 hx hi2 c)
      · rintro (rfl | c)
        · rw [hi2] at hx
          injection hx with hx
          exact .inr (by rw [hx])
        · exact .inl c
    · have e1 : w1.os = W.os ∧ w1.tape = W.tape ∧ w1.output = W.output ∧ w1.heap.size = W.heap.size := by rcases hw1 with rfl | rfl <;> exact ⟨rfl, rfl, rfl, rfl⟩
      refine ⟨e1.1, e1.2.1, e1.2.2.1, ?_, fun k hk hn => hoth _ k hn⟩
      simp [setBlock, e1.2.2.2]
    · have := run_entry_at (P := P) W2 r b since seen es clock e (g1.trans (hrw _)) (g2.trans hbb) hm (born_nodup h3)
      rw [this, q1, q2]
end
end Go.Proofs.Ytcikmpcacakfbaa.Hand
