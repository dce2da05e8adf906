/-
  InputsScript: keys, the store's state, New.
-/
import Derived.Test.YtogpjenmfgpfiaaQInputsScriptx
import Derived.Test.YtogpjenmfgpfiaaHandMap
import Derived.Test.YtogpjenmfgpfiaaHandChg
import Derived.Test.YtogpjenmfgpfiaaWEqStruct
import Derived.Shelf.SlMaps.Clone
import Derived.WideKeyRuns
namespace Go.Proofs.Ytogpjenmfgpfiaa.QInputsScript
open Go.RowKit Go.Proofs.YtogpjenmfgpfiaaW.PrintWords Go.Proofs.YtogpjenmfgpfiaaW.PrintLast Go.Proofs.YtogpjenmfgpfiaaW.PrintMore Go.Proofs.Ytogpjenmfgpfiaa.Hand
attribute [local go_sem] max2_int min2_int max_two min_two max_three min_three max_four min_four
set_option linter.unusedVariables false
set_option linter.unusedSimpArgs false
structure S34 where
  f0 : Int
  f1 : Int
  f2 : Int
instance : DecidableEq S34 := fun a b => if h : a.f0 = b.f0 ∧ a.f1 = b.f1 ∧ a.f2 = b.f2 then isTrue (by
    obtain ⟨x, y, z⟩ := a
    obtain ⟨x', y', z'⟩ := b
    obtain ⟨h1, h2, h3⟩ := h
    simp only at h1 h2 h3
    rw [h1, h2, h3]) else isFalse (fun e => h (by rw [e]; exact ⟨rfl, rfl, rfl⟩))
def encK (x : S34) : Value := .agg #[.int .i64 x.f0, .int .i64 x.f1, .int .i64 x.f2]
theorem eqA34 (d : Nat) (w : World) (x0 y0 : Int) (x1 y1 : Int) (x2 y2 : Int) :
    (Op.equalIn (d + 2) 34 (.agg #[.int .i64 x0, .int .i64 x1, .int .i64 x2]) (.agg #[.int .i64 y0, .int .i64 y1, .int .i64 y2])).run Try.prog w = .ok (x0 == y0 && (x1 == y1 && (x2 == y2))) w := by
  refine eqA_of Try.underlying34 (by kernel_rfl) ?_
  refine eqf_cons (by rfl) (by go_simp; rfl) (by go_simp; rfl) (by go_simp) ?_
  refine eqf_cons (by rfl) (by go_simp; rfl) (by go_simp; rfl) (by go_simp) ?_
  exact eqf_last (by rfl) (by go_simp; rfl) (by go_simp; rfl) (by go_simp)
theorem keyLaw34 : KeyLaw Try.prog 34 encK where
  check := fun e x w => by
    have h : ∀ n, (Instr.checkKey e (n + 2) 34 (encK x)).run Try.prog w = .ok () w := by
      intro n
      unfold encK
      simp [Instr.checkKey, run_underlying Try.underlying34, run_underlying Try.underlying3, go_sem, Result.andThen]
    exact h 9998
  find := fun es xs x w h => by
    rw [run_findKey_eq w (by kernel_rfl)]
    have := findAsking_fidx (P := Try.prog) (kt := 34) (enc := encK) (fun x y w => by
      show (Op.equalIn (9998 + 2) 34 _ _).run Try.prog w = _
      rw [encK, encK, eqA34]
      congr 1
      rw [Bool.eq_iff_iff]
      obtain ⟨a, b, c⟩ := x
      obtain ⟨a', b', c'⟩ := y
      simp only [Bool.and_eq_true, beq_iff_eq, decide_eq_true_eq, S34.mk.injEq]
      constructor <;> rintro ⟨h1, h2, h3⟩ <;> exact ⟨h1.symm, h2.symm, h3.symm⟩) x es xs 0 w h
    simpa using this
  stays := fun x => by
    have h : ∀ n, Instr.sameBits (n + 2) (encK x) (encK x) = true := by
      intro n
      unfold encK
      simp [Instr.sameBits]
    exact h 9998
/-- A value's equality, told by one Bool. -/
def valEq (l0 : List Int) (a0 : ByteArray) (l1 : List Int) (a1 : ByteArray) : Bool := decide (a0.toList = a1.toList ∧ l0 = l1)
/-- An input, as the store holds it. -/
structure In where
  nums : List Int
  text : ByteArray
  chg : Int
  dur : Int
def zIn : In := ⟨[], ⟨#[]⟩, 0, 0⟩
/-- The same with the place of its numbers. -/
structure InR where
  A : Option Addr
  c : Nat
  v : In
def InR.enc (r : InR) : Value := .agg #[.slice r.A r.v.nums.length r.c, .string r.v.text, .int .i64 r.v.chg, .int .i64 r.v.dur]
def zInR : InR := ⟨none, 0, zIn⟩
/-- A store: the revision, the last changes, the inputs. -/
structure St where
  rev : Int
  l0 : Int
  l1 : Int
  l2 : Int
  m : List (S34 × In)
/-- What the store's inputs keep to. -/
def DOK (v : In) : Prop := 0 ≤ v.dur ∧ v.dur ≤ 2 ∧ v.nums.length < 17592186044416
/-- The numbers lie in a row of their own, which nothing else is. -/
def InOK (W : World) (r : InR) : Prop := Kd.R (Kd.int .i64) 3 W 0 (fun k => some k = (Value.slice r.A r.v.nums.length r.c).ownBlock) (.slice r.A r.v.nums.length r.c) r.v.nums
def Other (W : World) (k : Nat) : Prop := ∀ cells, W.heap[k]? ≠ some (.cells cells 3 (0, 0))
theorem other_cells {W : World} {k t : Nat} {cs : Array Value} {fr : Nat × Nat} (h : W.heap[k]? = some (.cells cs t fr)) (ht : t ≠ 3) : Other W k := fun cells e => by
  rw [h] at e
  simp only [Option.some.injEq, Obj.cells.injEq] at e
  exact ht e.2.1
theorem other_map {κ : Type} {enc : κ → Value} {W : World} {k : Nat} {m : List (κ × Value)} (h : MapIs enc W k m) : Other W k := fun cells e => by
  obtain ⟨es, c, h, _⟩ := h
  rw [h] at e
  cases e
theorem InOK.chg {S : Nat → Prop} {W W' : World} {r : InR} (h : InOK W r) (hc : Chg S W W') (hS : ∀ k, S k → k < W.heap.size → Other W k) : InOK W' r :=
  Kd.R_step h (fun k hk hlt => hc.block k hlt (fun e => by
    obtain ⟨cells, hcells⟩ := Kd.R_typed h k hk.symm
    exact hS k e hlt cells hcells))
theorem InOK.below {W W' : World} {r : InR} (h : InOK W r) (hb : Below W.heap.size W W') : InOK W' r := Kd.R_below h hb
theorem InOK.cap {W : World} {r : InR} (h : InOK W r) : r.v.nums.length ≤ r.c := (Kd.R_reads' h).2.1
theorem InOK.reads {W : World} {r : InR} (h : InOK W r) : Kd.C (Kd.int .i64) W r.A r.v.nums.length r.v.nums := (Kd.R_reads' h).2.2
/-- The store at block sb, its map at block mb. -/
def StI (sb mb : Nat) (st : St) (W : World) : Prop :=
  ∃ mr : List (S34 × InR), st.m = mr.map (fun p => (p.1, p.2.v)) ∧ W.heap[sb]? = some (.cells #[.int .i64 st.rev, .int .i64 st.l0, .int .i64 st.l1, .int .i64 st.l2, .map (some mb)] 82 (0, 0)) ∧ MapIs encK W mb (mr.map (fun p => (p.1, p.2.enc))) ∧
    (∀ p ∈ mr, InOK W p.2) ∧ ∀ p ∈ st.m, DOK p.2
theorem StI.step {S : Nat → Prop} {sb mb : Nat} {st : St} {W W' : World} (h : StI sb mb st W) (hc : Chg S W W') (h1 : ¬ S sb) (h2 : ¬ S mb) (hS : ∀ k, S k → k < W.heap.size → Other W k) : StI sb mb st W' := by
  obtain ⟨mr, g1, g2, g3, g4, g5⟩ := h
  exact ⟨mr, g1, hc.at g2 h1, g3.move (hc.block mb g3.lt h2), fun p hp => (g4 p hp).chg hc hS, g5⟩
/-- Behind events that leave all older blocks alone. -/
theorem StI.below {sb mb : Nat} {st : St} {W W' : World} (h : StI sb mb st W) (hb : Below W.heap.size W W') : StI sb mb st W' := h.step (S := fun _ => False) (Chg.of_new hb) (fun e => e) (fun e => e) (fun _ e => e.elim)
set_option maxRecDepth 100000 in
set_option maxHeartbeats 4000000 in
theorem new_calls (w : World) : Calls Try.prog 10 #[] w fun e w' => ∃ sb mb, e = .returned (.pointer (some ⟨sb, 0, none⟩)) ∧ StI sb mb ⟨0, 0, 0, 0, []⟩ w' ∧ Below w.heap.size w w' ∧ w.heap.size ≤ sb ∧ w.heap.size ≤ mb := by
  have hmm := @run_makeMap Try.prog
  go_enter Try.func10, Try.ntmps10
  go_wp2
  go_ret
  have hb := below_alloc (below_alloc (Below.refl w.heap.size w) (.map #[] 0)) (.cells #[.int .i64 0, .int .i64 0, .int .i64 0, .int .i64 0, .map (some w.heap.size)] 82)
  have hs : ((w.alloc (.map #[] 0)).alloc (.cells #[.int .i64 0, .int .i64 0, .int .i64 0, .int .i64 0, .map (some w.heap.size)] 82)).heap[w.heap.size + 1]? = some (.cells #[.int .i64 0, .int .i64 0, .int .i64 0, .int .i64 0, .map (some w.heap.size)] 82 (0, 0)) := by
    have := hb_new (w.alloc (.map #[] 0)) (.cells #[.int .i64 0, .int .i64 0, .int .i64 0, .int .i64 0, .map (some w.heap.size)] 82)
    rwa [World.size_alloc] at this
  exact ⟨w.heap.size + 1, w.heap.size, rfl, ⟨[], rfl, hs, (MapIs.new w).move (hb_alloc (hb_new w _) |>.trans (hb_new w _).symm), (fun p hp => by cases hp), (fun p hp => by cases hp)⟩, hb, by omega, by omega⟩
theorem StI.cells {sb mb : Nat} {st : St} {W : World} (h : StI sb mb st W) : W.cell? ⟨sb, 0, none⟩ = some (.int .i64 st.rev) ∧ W.cell? ⟨sb, 1, none⟩ = some (.int .i64 st.l0) ∧ W.cell? ⟨sb, 2, none⟩ = some (.int .i64 st.l1) ∧ W.cell? ⟨sb, 3, none⟩ = some (.int .i64 st.l2) ∧ W.cell? ⟨sb, 4, none⟩ = some (.map (some mb)) := by
  obtain ⟨mr, h1, h2, _⟩ := h
  exact ⟨(cells_of_blk h2 0).trans rfl, (cells_of_blk h2 1).trans rfl, (cells_of_blk h2 2).trans rfl, (cells_of_blk h2 3).trans rfl, (cells_of_blk h2 4).trans rfl⟩
theorem revision_calls {sb mb : Nat} {st : St} {w : World} (h : StI sb mb st w) : Calls Try.prog 13 #[.pointer (some ⟨sb, 0, none⟩)] w fun e w' => e = .returned (.int .i64 st.rev) ∧ w = w' := by
  obtain ⟨c0, _⟩ := h.cells
  clear h
  go_enter Try.func13, Try.ntmps13
  go_wp2
  go_ret
  exact ⟨rfl, rfl⟩
/-- The revision of the last change of at least this durability. -/
def lastP (st : St) (d : Int) : Int := if d = 0 then st.l0 else if d = 1 then st.l1 else if d = 2 then st.l2 else 0
theorem last_calls {sb mb : Nat} {st : St} {w : World} (h : StI sb mb st w) (d : Int) : Calls Try.prog 16 #[.pointer (some ⟨sb, 0, none⟩), .int .i64 d] w fun e w' => e = .returned (.int .i64 (lastP st d)) ∧ w = w' := by
  obtain ⟨_, c1, c2, c3, _⟩ := h.cells
  clear h
  unfold lastP
  by_cases h0 : d < 0
  · have b0 : decide (d < 0) = true := decide_eq_true h0
    rw [if_neg (by omega), if_neg (by omega), if_neg (by omega)]
    clear h0
    go_enter Try.func16, Try.ntmps16
    go_wp2
    go_ret
    exact ⟨rfl, rfl⟩
  by_cases h3 : d ≥ 3
  · have b0 : decide (d < 0) = false := decide_eq_false h0
    have b3 : decide (d ≥ 3) = true := decide_eq_true h3
    rw [if_neg (by omega), if_neg (by omega), if_neg (by omega)]
    clear h0 h3
    go_enter Try.func16, Try.ntmps16
    go_wp2
    go_ret
    exact ⟨rfl, rfl⟩
  obtain rfl | rfl | rfl : d = 0 ∨ d = 1 ∨ d = 2 := by omega
  all_goals
    go_enter Try.func16, Try.ntmps16
    go_wp2
    go_ret
    exact ⟨rfl, rfl⟩
end Go.Proofs.Ytogpjenmfgpfiaa.QInputsScript
