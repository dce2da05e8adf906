/-
  What a step changes: nothing below the heap's size but the blocks of S.
-/
import Derived.Test.YtpkdgdhfhgelbaaWMore
import Derived.Test.YtpkdgdhfhgelbaaWKept
import Derived.Test.YtpkdgdhfhgelbaaWShare
import Derived.Test.YtpkdgdhfhgelbaaWApart
import Derived.OneCell
import Derived.RangeFuncRecord
namespace Go.Proofs.Ytpkdgdhfhgelbaa.Hand
open Go.RowKit Go.Proofs.YtpkdgdhfhgelbaaW.PrintWords Go.Proofs.YtpkdgdhfhgelbaaW.PrintLast Go.Proofs.YtpkdgdhfhgelbaaW.PrintMore
set_option linter.unusedVariables false
set_option linter.unusedSectionVars false
structure Chg (S : Nat → Prop) (w w' : World) : Prop where
  os : w'.os = w.os
  tape : w'.tape = w.tape
  output : w'.output = w.output
  size : w.heap.size ≤ w'.heap.size
  block : ∀ k, k < w.heap.size → ¬ S k → w'.heap[k]? = w.heap[k]?
section
variable {S S' T : Nat → Prop} {a b c w w' : World}
theorem Chg.refl (S : Nat → Prop) (w : World) : Chg S w w := ⟨rfl, rfl, rfl, Nat.le_refl _, fun _ _ _ => rfl⟩
theorem Chg.mono (h : Chg S a b) (hs : ∀ k, k < a.heap.size → S k → T k) : Chg T a b := ⟨h.os, h.tape, h.output, h.size, fun k hk hn => h.block k hk (fun e => hn (hs k hk e))⟩
theorem Chg.trans (h : Chg S a b) (k : Chg S' b c) (hs : ∀ j, j < a.heap.size → S' j → S j) : Chg S a c :=
  ⟨k.os.trans h.os, k.tape.trans h.tape, k.output.trans h.output, Nat.le_trans h.size k.size, fun j hj hn => (k.block j (Nat.lt_of_lt_of_le hj h.size) (fun e => hn (hs j hj e))).trans (h.block j hj hn)⟩
theorem Chg.of_below {B : Nat} (h : Below B a b) (hB : ∀ k, k < a.heap.size → B ≤ k → S k) : Chg S a b := ⟨h.os, h.tape, h.output, h.size, fun k hk hn => h.block k (Nat.lt_of_not_le (fun e => hn (hB k hk e)))⟩
theorem Chg.of_new (h : Below a.heap.size a b) : Chg S a b := Chg.of_below h (fun k hk e => absurd hk (Nat.not_lt.2 e))
theorem Chg.to_below {B : Nat} (h : Chg S a b) (hB : ∀ k, k < a.heap.size → S k → B ≤ k) (hs : B ≤ a.heap.size) : Below B a b := ⟨h.os, h.tape, h.output, h.size, fun k hk => h.block k (Nat.lt_of_lt_of_le hk hs) (fun e => absurd hk (Nat.not_lt.2 (hB k (Nat.lt_of_lt_of_le hk hs) e)))⟩
theorem Chg.of_grown {row : Option Nat} (h : a.grownBy b row) (hr : ∀ k, row = some k → S k) : Chg S a b := ⟨h.os, h.tape, h.output, h.size, fun k hk hn => h.block k hk (fun e => hn (hr k e.symm))⟩
theorem Chg.set (w : World) (p : Addr) (u : Value) (hp : S p.block) : Chg S w (w.setCell p u) := ⟨rfl, rfl, rfl, by simp, fun k hk hn => Below.heap_setCell w p u k (fun e => hn (by rw [e]; exact hp))⟩
theorem Chg.alloc (w : World) (o : Obj) : Chg S w (w.alloc o) := Chg.of_new (below_alloc (Below.refl _ _) _)
theorem Chg.drew (w : World) : Chg S w w.drew := Chg.of_new (below_drew1 (Below.refl _ _))
theorem Chg.drawn (h : Drawn0 a b) : Chg S a b := by
  obtain ⟨n, rfl⟩ := h.out
  exact Chg.of_new (pw_below_drewN (Below.refl _ _) n)
theorem Chg.at {k : Nat} {o : Obj} (h : Chg S a b) (hk : a.heap[k]? = some o) (hn : ¬ S k) : b.heap[k]? = some o := (h.block k (Array.getElem?_eq_some_iff.1 hk).1 hn).trans hk
end
theorem lt_of_blk {w : World} {k : Nat} {o : Obj} (h : w.heap[k]? = some o) : k < w.heap.size := (Array.getElem?_eq_some_iff.1 h).1
theorem cell_of_blk {W : World} {B : Nat} {v : Value} {t : Nat} (h : W.heap[B]? = some (.cells #[v] t (0, 0))) : W.cell? ⟨B, 0, none⟩ = some v := by simp [World.cell?, h]
theorem cells_of_blk {W : World} {B : Nat} {cs : Array Value} {t : Nat} (h : W.heap[B]? = some (.cells cs t (0, 0))) (i : Nat) : W.cell? ⟨B, i, none⟩ = cs[i]? := by simp [World.cell?, h]
theorem free_of_blk {W : World} {B : Nat} {cs : Array Value} {t : Nat} (h : W.heap[B]? = some (.cells cs t (0, 0))) (i : Nat) : W.frozen? ⟨B, i, none⟩ = false := by simp [World.frozen?, h]
theorem hb_new (w : World) (o : Obj) : (w.alloc o).heap[w.heap.size]? = some o := heap_alloc_new w o
theorem hb_alloc {w : World} {k : Nat} {o o' : Obj} (h : w.heap[k]? = some o) : (w.alloc o').heap[k]? = some o := (Below.heap_alloc w o' k (lt_of_blk h)).trans h
theorem hb_set {w : World} {k : Nat} {cs : Array Value} {t : Nat} (h : w.heap[k]? = some (.cells cs t (0, 0))) (i : Nat) (u : Value) : (w.setCell ⟨k, i, none⟩ u).heap[k]? = some (.cells (cs.setIfInBounds i u) t (0, 0)) := by
  simp [World.setCell, Array.getElem?_modify, h]
theorem hb_far {w : World} {k : Nat} {o : Obj} (h : w.heap[k]? = some o) {p : Addr} (hp : k ≠ p.block) (u : Value) : (w.setCell p u).heap[k]? = some o := (Below.heap_setCell w p u k hp).trans h
end Go.Proofs.Ytpkdgdhfhgelbaa.Hand
