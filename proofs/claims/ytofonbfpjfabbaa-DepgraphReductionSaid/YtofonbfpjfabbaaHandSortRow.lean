/-
  A row of one's own, sorted by slices.SortFunc: what the shelf's contract asks and what it leaves, in the words' terms.
-/
import Derived.Test.YtofonbfpjfabbaaWMore
import Derived.Test.YtofonbfpjfabbaaHandChg
import Derived.Shelf.SlSortCmp.WholeK
namespace Go.Proofs.Ytofonbfpjfabbaa.Hand
open Go.RowKit Go.Proofs.YtofonbfpjfabbaaW.PrintWords Go.Proofs.YtofonbfpjfabbaaW.PrintLast Go.Proofs.YtofonbfpjfabbaaW.PrintMore Go.Sort
set_option linter.unusedVariables false
set_option linter.unusedSimpArgs false
/-- How an element of a kind lies: by one function, without rows of its own. -/
structure Flat {α : Type} (d : Kd α) (enc : α → List Value) : Prop where
  len : ∀ x, (enc x).length = d.sz
  pos : 0 < d.sz
  eq : ∀ W base ok x cs, d.M W base ok x cs → cs = enc x
  make : ∀ W base ok x, d.M W base ok x (enc x)
section
variable {α : Type} [Inhabited α] {d : Kd α} {enc : α → List Value}
theorem reps_at (F : Flat d enc) {W : World} {base : Nat} {ok : Nat → Prop} {xs : List α} {inner : List Value} (h : Reps (d.M W base ok) d.sz xs inner) {t : Nat} (ht : t < xs.length * d.sz) :
    inner[t]? = some ((enc xs.toArray[t / d.sz]!)[t % d.sz]!) := by
  have hq : t / d.sz < xs.length := by rw [Nat.div_lt_iff_lt_mul F.pos]; exact ht
  have hr := Nat.mod_lt t F.pos
  have h2 := F.eq _ _ _ _ _ (h.2 (t / d.sz) _ (List.getElem?_eq_getElem hq))
  have e : t / d.sz * d.sz + t % d.sz = t := by rw [Nat.mul_comm]; exact Nat.div_add_mod t d.sz
  have h3 : ((inner.drop (t / d.sz * d.sz)).take d.sz)[t % d.sz]? = inner[t]? := by rw [List.getElem?_take, if_pos hr, List.getElem?_drop, e]
  rw [← h3, h2]
  have hl : t % d.sz < (enc xs[t / d.sz]).length := by rw [F.len]; exact hr
  rw [List.getElem?_eq_getElem hl]
  simp [hq, hl]
theorem flat_reps (F : Flat d enc) (W : World) (base : Nat) (ok : Nat → Prop) (D : Array α) : Reps (d.M W base ok) d.sz D.toList (flatK enc d.sz D).toList := by
  refine ⟨by simp [flatK], fun j p hp => ?_⟩
  obtain ⟨hj, rfl⟩ := List.getElem?_eq_some_iff.1 hp
  have hj' : j < D.size := by simpa using hj
  have e : ((flatK enc d.sz D).toList.drop (j * d.sz)).take d.sz = enc (D.toList[j]) := by
    apply List.ext_getElem?
    intro i
    rw [List.getElem?_take]
    by_cases hi : i < d.sz
    · rw [if_pos hi, List.getElem?_drop]
      have hlt : j * d.sz + i < D.size * d.sz := by
        have : (j + 1) * d.sz ≤ D.size * d.sz := Nat.mul_le_mul_right _ hj'
        rw [Nat.succ_mul] at this
        omega
      have h1 : (j * d.sz + i) / d.sz = j := by rw [Nat.mul_comm, Nat.mul_add_div F.pos, Nat.div_eq_of_lt hi, Nat.add_zero]
      have h2 : (j * d.sz + i) % d.sz = i := by rw [Nat.mul_comm, Nat.mul_add_mod, Nat.mod_eq_of_lt hi]
      have hl : i < (enc D[j]).length := by rw [F.len]; exact hi
      simp [flatK, hlt, h1, h2, hj', List.getElem?_eq_getElem hl]
    · rw [if_neg hi, List.getElem?_eq_none]
      rw [F.len]; omega
  rw [e]
  exact F.make _ _ _ _
theorem R_holds (F : Flat d enc) {e base g n cap : Nat} {ok : Nat → Prop} {w : World} {xs : List α} (h : d.R e w base ok (.slice (some ⟨g, 0, none⟩) n cap) xs) : HoldsK enc d.sz w g 0 xs.toArray ∧ g < w.heap.size ∧ n = xs.length := by
  obtain ⟨_, inner, ⟨h1, h2⟩, hr⟩ := h
  rcases h2 with ⟨h2, _⟩ | ⟨g', cap', cur, h2, hb, hg, hc, hm, hs, ht⟩
  · cases h2
  · injection h2 with a b c'
    injection a with a
    injection a with a _ _
    subst a; subst b; subst c'
    refine ⟨fun t ht2 => ?_, lt_of_blk hg, rfl⟩
    have ht3 : t < xs.length * d.sz := by simpa [flatK] using ht2
    rw [Nat.zero_add]
    refine ⟨?_, free_of_blk hg t⟩
    rw [cells_of_blk hg t]
    have h4 := reps_at F hr ht3
    rw [← ht, List.getElem?_take, if_pos ht3] at h4
    rw [get_flatK _ _ _ _ (by simpa using ht3)]
    simpa using h4
theorem heap_sort {w : World} {g m : Nat} {D : Array α} {os : Array Obj} {k : Nat} (hk : k < w.heap.size) (hne : k ≠ g) : (sortWorldK enc d.sz w g 0 m D os).heap[k]? = w.heap[k]? := by
  unfold sortWorldK
  rw [heap_grow_old]
  · simp [putRowK, putRow, mapBlock, ahead, Array.getElem?_modify, Ne.symm hne]
  · simpa [putRowK, putRow, mapBlock, ahead] using hk
theorem chg_sort {w : World} {g m : Nat} {D : Array α} {os : Array Obj} : Chg (fun k => k = g) w (sortWorldK enc d.sz w g 0 m D os) :=
  ⟨rfl, rfl, rfl, by simp [sortWorldK, grow, putRowK, putRow, mapBlock, ahead], fun k hk hn => heap_sort hk hn⟩
theorem R_sorted (F : Flat d enc) {e base g n cap : Nat} {ok : Nat → Prop} {w : World} {xs : List α} (h : d.R e w base ok (.slice (some ⟨g, 0, none⟩) n cap) xs) (m : Nat) (D : Array α) (os : Array Obj) (hD : D.size = xs.length) :
    d.R e (sortWorldK enc d.sz w g 0 m D os) base ok (.slice (some ⟨g, 0, none⟩) n cap) D.toList := by
  obtain ⟨h0, inner, ⟨h1, h2⟩, hr⟩ := h
  rcases h2 with ⟨h2, _⟩ | ⟨g', cap', cur, h2, hb, hg, hc, hm, hs, ht⟩
  · cases h2
  · injection h2 with a b c'
    injection a with a
    injection a with a _ _
    subst a; subst b; subst c'
    have hlen : D.toList.length = xs.length := by simpa using hD
    refine ⟨h0, (flatK enc d.sz D).toList, ⟨by simp [flatK], .inr ⟨g, cap, putCells id 0 (flatK enc d.sz D) cur, by rw [hlen], hb, ?_, by rw [hlen]; exact hc, hm, by simp [putCells, hs], ?_⟩⟩, flat_reps F _ _ _ D⟩
    · unfold sortWorldK
      rw [heap_grow_old]
      · simp [putRowK, putRow, mapBlock, ahead, Array.getElem?_modify, hg, onCells]
      · simpa [putRowK, putRow, mapBlock, ahead] using lt_of_blk hg
    · apply List.ext_getElem?
      intro t
      rw [List.getElem?_take]
      have hfs : (flatK enc d.sz D).size = D.size * d.sz := by simp [flatK]
      by_cases htl : t < D.toList.length * d.sz
      · rw [if_pos htl]
        have ht3 : t < (flatK enc d.sz D).size := by rw [hfs]; simpa using htl
        have hcap : t < cur.size := by
          rw [hs]
          have : xs.length * d.sz ≤ cap * d.sz := Nat.mul_le_mul_right _ hc
          rw [hlen] at htl
          omega
        simp [putCells, hcap]
        rw [if_pos (by rw [← hfs]; exact ht3), getElem!_pos (flatK enc d.sz D) t ht3, Array.getElem?_eq_getElem ht3]
      · rw [if_neg htl, List.getElem?_eq_none]
        have e : D.toList.length = D.size := by simp
        rw [e] at htl
        simp [hfs]
        omega
end
theorem R_moveF {α : Type} {d : Kd α} {enc : α → List Value} (F : Flat d enc) {e base : Nat} {ok : Nat → Prop} {w w' : World} {v : Value} {xs : List α} (h : d.R e w base ok v xs) (hk : ∀ k, v.ownBlock = some k → w'.heap[k]? = w.heap[k]?) : d.R e w' base ok v xs := by
  obtain ⟨h0, inner, ⟨h1, h2⟩, hr⟩ := h
  refine ⟨h0, inner, ⟨h1, ?_⟩, hr.imp_ (fun p cs hm => by rw [F.eq _ _ _ _ _ hm]; exact F.make _ _ _ _)⟩
  rcases h2 with h2 | ⟨g, cap, cur, rfl, hb, hg, t⟩
  · exact .inl h2
  · exact .inr ⟨g, cap, cur, rfl, hb, (hk g rfl).trans hg, t⟩
end Go.Proofs.Ytofonbfpjfabbaa.Hand
