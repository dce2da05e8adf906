/-
  slices.Chunk at []int: the iterator's contract (a range over it gives the cuts in order).
-/
import Derived.RangeFuncNested
import Derived.RangeFuncBound
import Derived.RangeFuncCalls
import Derived.RangeFuncLeaves
import Derived.RangeFuncBox
import Derived.Shelf.Abstract
import Derived.Shelf.RegionOpen
import Derived.WalkKit
import Derived.OwnWalkIn
import Derived.TacticsInMore
import Derived.LoopNIn
import Derived.LoopIn
import Derived.Test.YtogpjenmfgpfiaaProg
namespace Go.Proofs.Ytogpjenmfgpfiaa.Hand
open Go.RowKit Go.Shelf
attribute [local go_sem] Oper.semAt_some
set_option linter.unusedVariables false
set_option linter.unusedSimpArgs false

/-- A cut: where it begins and how long it is. -/
abbrev Cut (N : Nat) := { p : Nat × Nat // p.1 + p.2 ≤ N ∧ 0 < p.2 }
/-- The cuts of N elements from i on, each of s elements but the last. -/
def cuts (s N : Nat) : Nat → Nat → List (Nat × Nat)
  | 0, _ => []
  | d + 1, i => if i < N then (i, min s (N - i)) :: cuts s N d (i + s) else []
theorem cuts_len (s N : Nat) : ∀ d i, (cuts s N d i).length ≤ d
  | 0, _ => by simp [cuts]
  | d + 1, i => by
    unfold cuts
    split
    · have := cuts_len s N d (i + s); simp; omega
    · simp
theorem cuts_end (s N d i : Nat) (h : N ≤ i) : cuts s N d i = [] := by
  cases d with
  | zero => rfl
  | succ d => unfold cuts; rw [if_neg (by omega)]
theorem cuts_step {s N k q : Nat} {pre : List (Cut N)} {x : Cut N} (hlt : k < N) (hx : x.1 = (k, q)) (hq : q = min s (N - k)) (hp : pre.length < 1001) :
    (pre ++ [x]).map Subtype.val ++ cuts s N (1001 - (pre ++ [x]).length) (k + s) = pre.map Subtype.val ++ cuts s N (1001 - pre.length) k := by
  obtain ⟨d, hd⟩ : ∃ d, 1001 - pre.length = d + 1 := ⟨1000 - pre.length, by omega⟩
  have hd2 : 1001 - (pre ++ [x]).length = d := by simp; omega
  rw [hd, hd2, cuts, if_pos hlt, List.map_append, List.append_assoc, ← hq, ← hx]
  rfl
theorem World.grownBy.drew' (W : World) : W.grownBy W.drew none := ⟨rfl, rfl, rfl, Nat.le_refl _, fun _ _ _ => rfl⟩
/-- What a round leaves as it was: the two boxes of the iterator. -/
def KpB (B1 B2 : Nat) (W W' : World) : Prop := W'.heap[B1]? = W.heap[B1]? ∧ W'.heap[B2]? = W.heap[B2]?
theorem KpB.trans {B1 B2 : Nat} {A B C : World} (h : KpB B1 B2 A B) (k : KpB B1 B2 B C) : KpB B1 B2 A C := ⟨k.1.trans h.1, k.2.trans h.2⟩
theorem box_cell {W : World} {B : Nat} {v : Value} {t : Nat} (h : W.heap[B]? = some (.cells #[v] t (0, 0))) : W.cell? ⟨B, 0, none⟩ = some v := by
  simp [World.cell?, h]

set_option maxRecDepth 100000 in
set_option maxHeartbeats 4000000 in
theorem chunk1_in (F : Fence) (n : Nat) (hf : F.fn 78) (hro : F.round = none) (hn : 1 ≤ n) (l B1 B2 : Nat) (ad : Addr) (N c s : Nat) (hN : N ≤ 1000) (hNc : N ≤ c) (hs : 1 ≤ s) (hs2 : s ≤ 9223372036854775807) (J Jx : List (Cut N) → World → Prop)
    (hY : ∀ pre (x : Cut N) W, J pre W → pre.length < 1001 → YieldAt F (n - 1) Try.prog l #[.slice (some (ad.add x.1.1)) x.1.2 x.1.2] W fun e W' =>
      (e = .returned (.bool true) ∧ J (pre ++ [x]) W' ∧ KpB B1 B2 W W') ∨ (e = .returned (.bool false) ∧ Jx (pre ++ [x]) W'))
    (hJd : ∀ pre W, J pre W → J pre W.drew) (W : World) (h1 : W.heap[B1]? = some (.cells #[.slice (some ad) N c] 24 (0, 0))) (h2 : W.heap[B2]? = some (.cells #[.int .i64 (s : Int)] 3 (0, 0))) (h0 : J [] W) :
    CallsIn F n Try.prog 78 #[.func (.yield l) #[] #[], .pointer (some ⟨B1, 0, none⟩), .pointer (some ⟨B2, 0, none⟩)] W fun e W' => (∃ v, e = .returned v) ∧
      ((∃ ys, ys.map Subtype.val = cuts s N 1001 0 ∧ J ys W') ∨ (∃ pre, True ∧ Jx pre W')) := by
  refine callsIn_of_wp Try.func78 rfl hf ?_ hro
  simp only [Try.ntmps78, List.size_toArray, List.length_cons, List.length_nil, Nat.reduceAdd, Nat.reduceSub, Array.replicate_succ, Array.replicate_zero, List.push_toArray, List.append_toArray, List.nil_append, List.cons_append]
  gi_wp2
  gi_loopw [4] (fun i wr => ∃ (k : Nat) (pre : List (Cut N)), i = .int .i64 k ∧ (k = 0 ∨ s ≤ 1000 ∨ N ≤ k) ∧ pre.length + (N - k) ≤ 1001 ∧ pre.map Subtype.val ++ cuts s N (1001 - pre.length) k = cuts s N 1001 0 ∧ J pre wr ∧ wr.heap[B1]? = some (.cells #[.slice (some ad) N c] 24 (0, 0)) ∧ wr.heap[B2]? = some (.cells #[.int .i64 (s : Int)] 3 (0, 0)))
    (fun i _ => N - (intOf i).toNat)
  case atStart => exact ⟨0, [], rfl, .inl rfl, by simp; omega, by simp, h0, h1, h2⟩
  case round =>
    obtain ⟨k, pre, rfl, hk, hlen, hcuts, hJs, g1, g2⟩ := hrel
    have c1 := box_cell g1
    have c2 := box_cell g2
    by_cases hlt : k < N
    · obtain ⟨x, hx⟩ : ∃ x : Cut N, x.1 = (k, min s (N - k)) := ⟨⟨(k, min s (N - k)), by simp; omega, by simp; omega⟩, rfl⟩
      have hy0 := hY pre x wr.drew (hJd pre wr hJs) (by omega)
      rw [hx] at hy0
      obtain ⟨q, hq⟩ : ∃ q, q = min s (N - k) := ⟨_, rfl⟩
      have he : (if N - k < s then ((N - k : Nat) : Int) else (s : Int)) = (q : Int) := by rw [hq]; split <;> omega
      rw [← hq] at hy0 hx
      have c1 : wr.drew.cell? ⟨B1, 0, none⟩ = some (.slice (some ad) N c) := c1
      have c2 : wr.drew.cell? ⟨B2, 0, none⟩ = some (.int .i64 (s : Int)) := c2
      obtain ⟨fn, tmps, assign, body, hy, hR⟩ := hy0
      dsimp only at hy
      have hq0 : 0 < q := by omega
      have hq1 : k + q ≤ N := by omega
      have c3 := box_cell g1
      have c4 := box_cell g2
      have hqP : PLift (q = min s (N - k)) := ⟨hq⟩
      clear hq
      gi_wp2
      gi_region
      all_goals (try simp only [he])
      all_goals gi_wp2
      all_goals (refine hR.mono ?_; rintro e W3 (⟨rfl, hJ3, hk3⟩ | ⟨rfl, hJx3⟩))
      all_goals first
        | (have g13 : W3.heap[B1]? = some (.cells #[.slice (some ad) N c] 24 (0, 0)) := hk3.1.trans g1
           have g23 : W3.heap[B2]? = some (.cells #[.int .i64 (s : Int)] 3 (0, 0)) := hk3.2.trans g2
           have c13 := box_cell g13
           have c23 := box_cell g23
           have hov : k + s ≤ 9223372036854775807 := by omega
           gi_wp2
           go_roundw
           case rel => exact ⟨k + s, pre ++ [x], by simp, by omega, by simp; omega, by rw [← hcuts]; exact cuts_step hlt hx hqP.down (by omega), hJ3, g13, g23⟩
           case measure => simp [intOf]; omega)
        | (gi_wp2
           refine bodyPost_ret (results_none rfl _ _ _) rfl ?_
           exact ⟨⟨_, rfl⟩, .inr ⟨_, trivial, hJx3⟩⟩)
    · gi_wp2
      go_end0
      exact ⟨⟨_, rfl⟩, .inl ⟨pre, by rw [cuts_end s N _ k (by omega)] at hcuts; simpa using hcuts, hJs⟩⟩
theorem chunk_stops (F : Fence) (n : Nat) (hf : F.fn 78) (hro : F.round = none) (hn : 1 ≤ n) (B1 B2 : Nat) (ad : Addr) (N c s : Nat) (hN : N ≤ 1000) (hNc : N ≤ c) (hs : 1 ≤ s) (hs2 : s ≤ 9223372036854775807) (w : World)
    (h1 : w.heap[B1]? = some (.cells #[.slice (some ad) N c] 24 (0, 0))) (h2 : w.heap[B2]? = some (.cells #[.int .i64 (s : Int)] 3 (0, 0))) :
    SeqStopsK F n Try.prog 78 #[.pointer (some ⟨B1, 0, none⟩), .pointer (some ⟨B2, 0, none⟩)] (fun x : Cut N => #[Value.slice (some (ad.add x.1.1)) x.1.2 x.1.2]) (KpB B1 B2) (fun ys => ys.map Subtype.val = cuts s N 1001 0) (fun _ => True) 1001 w := fun l J Jx W hW hJ _ hY h0 => by
  have l1 : B1 < w.heap.size := (Array.getElem?_eq_some_iff.1 h1).1
  have l2 : B2 < w.heap.size := (Array.getElem?_eq_some_iff.1 h2).1
  exact chunk1_in F n hf hro hn l B1 B2 ad N c s hN hNc hs hs2 J Jx hY (fun pre W1 hJ1 => hJ pre W1 W1.drew none hJ1 (World.grownBy.drew' W1) (fun r e => by cases e)) W ((hW.block B1 l1).trans h1) ((hW.block B2 l2).trans h2) h0
set_option maxHeartbeats 1000000 in
theorem chunk_in (F : Fence) (n : Nat) (hf : F.fn 67) (hro : F.round = none) (A : Option Addr) (N c : Nat) (s : Int) (hs : 1 ≤ s) (w : World) :
    CallsIn F n Try.prog 67 #[.slice A N c, .int .i64 s] w fun e w' => e = .returned (.func (.func 78) #[] #[.pointer (some ⟨w.heap.size, 0, none⟩), .pointer (some ⟨w.heap.size + 1, 0, none⟩)]) ∧ w' = (w.alloc (.cells #[.slice A N c] 24)).alloc (.cells #[.int .i64 s] 3) := by
  refine callsIn_of_wp Try.func67 rfl hf ?_ hro
  simp only [Try.ntmps67, List.size_toArray, List.length_cons, List.length_nil, Nat.reduceAdd, Nat.reduceSub, Array.replicate_succ, Array.replicate_zero, List.push_toArray, List.append_toArray, List.nil_append, List.cons_append]
  have hlt : ¬ s < 1 := by omega
  gi_wp2
  go_ret
  exact ⟨rfl, rfl⟩
end Go.Proofs.Ytogpjenmfgpfiaa.Hand
