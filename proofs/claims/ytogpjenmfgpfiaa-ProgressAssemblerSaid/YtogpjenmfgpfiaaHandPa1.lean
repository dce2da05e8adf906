/-
  ProgressAssembler: the assembler's state, look-ups, NewAssembler.
-/
import Derived.Test.YtogpjenmfgpfiaaHandPa0
import Derived.Test.YtogpjenmfgpfiaaHandMapRange
import Derived.Test.YtogpjenmfgpfiaaWEqStruct
namespace Go.Proofs.Ytogpjenmfgpfiaa.QProgressAssembler
open Go.RowKit Go.Proofs.YtogpjenmfgpfiaaW.PrintWords Go.Proofs.YtogpjenmfgpfiaaW.PrintLast Go.Proofs.YtogpjenmfgpfiaaW.PrintMore Go.Proofs.Ytogpjenmfgpfiaa.Hand
attribute [local go_sem] max2_int min2_int max_two min_two max_three min_three max_four min_four
set_option linter.unusedVariables false
set_option linter.unusedSimpArgs false
theorem mget_mem {κ β : Type} [DecidableEq κ] {m : List (κ × β)} {x : κ} {v : β} (h : mget m x = some v) : (x, v) ∈ m := by
  induction m with
  | nil => cases h
  | cons p t ih =>
    rw [mget] at h
    by_cases c : p.1 = x
    · rw [if_pos c] at h
      injection h with h
      subst h c
      exact List.mem_cons_self
    · rw [if_neg c] at h
      exact List.mem_cons_of_mem _ (ih h)
/-- A stored chunk, with the place of its items. -/
structure Ck where
  A : Option Addr
  c : Nat
  v : S51
def Ck.enc (r : Ck) : Value := .agg #[.int .i64 r.v.f0, .int .i64 r.v.f1, .bool r.v.f2, .slice r.A r.v.f3.length r.c]
def zCk : Ck := ⟨none, 0, z51⟩
/-- A token's map: its block and its chunks. -/
structure Tk where
  b : Nat
  l : List (Int × Ck)
/-- The items lie in a row of their own, which nothing else is. -/
def CkOK (W : World) (r : Ck) : Prop := Kd.R (Kd.int .i64) 3 W 0 (fun k => some k = (Value.slice r.A r.v.f3.length r.c).ownBlock) (.slice r.A r.v.f3.length r.c) r.v.f3
def Other (W : World) (k : Nat) : Prop := ∀ cells, W.heap[k]? ≠ some (.cells cells 3 (0, 0))
theorem other_cells {W : World} {k t : Nat} {cs : Array Value} {fr : Nat × Nat} (h : W.heap[k]? = some (.cells cs t fr)) (ht : t ≠ 3) : Other W k := fun cells e => by
  rw [h] at e
  simp only [Option.some.injEq, Obj.cells.injEq] at e
  exact ht e.2.1
theorem other_map {κ : Type} {enc : κ → Value} {W : World} {k : Nat} {m : List (κ × Value)} (h : MapIs enc W k m) : Other W k := fun cells e => by
  obtain ⟨es, c, h, _⟩ := h
  rw [h] at e
  cases e
theorem CkOK.chg {S : Nat → Prop} {W W' : World} {r : Ck} (h : CkOK W r) (hc : Chg S W W') (hS : ∀ k, S k → k < W.heap.size → Other W k) : CkOK W' r :=
  Kd.R_step h (fun k hk hlt => hc.block k hlt (fun e => by
    obtain ⟨cells, hcells⟩ := Kd.R_typed h k hk.symm
    exact hS k e hlt cells hcells))
theorem CkOK.below {W W' : World} {r : Ck} (h : CkOK W r) (hb : Below W.heap.size W W') : CkOK W' r := Kd.R_below h hb
theorem CkOK.cap {W : World} {r : Ck} (h : CkOK W r) : r.v.f3.length ≤ r.c := (Kd.R_reads' h).2.1
theorem CkOK.reads {W : World} {r : Ck} (h : CkOK W r) : Kd.C (Kd.int .i64) W r.A r.v.f3.length r.v.f3 := (Kd.R_reads' h).2.2
/-- What a token's map holds. -/
def tk (ms : List (Int × Tk)) (t : Int) : List (Int × Ck) := match mget ms t with | some k => k.l | none => []
def encL (l : List (Int × Ck)) : List (Int × Value) := l.map (fun q => (q.1, q.2.enc))
/-- The assembler at block ab, its map at block om. -/
def AsI (ab om : Nat) (ms : List (Int × Tk)) (W : World) : Prop :=
  W.heap[ab]? = some (.cells #[.map (some om)] 93 (0, 0)) ∧ MapIs (Value.int .i64) W om (ms.map (fun p => (p.1, Value.map (some p.2.b)))) ∧ (∀ p ∈ ms, MapIs (Value.int .i64) W p.2.b (encL p.2.l)) ∧
    (∀ p ∈ ms, ∀ q ∈ p.2.l, CkOK W q.2) ∧ (ms.map (fun p => p.2.b)).Nodup ∧ om ∉ ms.map (fun p => p.2.b)
theorem AsI.step {S : Nat → Prop} {ab om : Nat} {ms : List (Int × Tk)} {W W' : World} (h : AsI ab om ms W) (hc : Chg S W W') (h1 : ¬ S ab) (h2 : ¬ S om) (h3 : ∀ p ∈ ms, ¬ S p.2.b) (hS : ∀ k, S k → k < W.heap.size → Other W k) : AsI ab om ms W' := by
  obtain ⟨g1, g2, g3, g4, g5, g6⟩ := h
  exact ⟨hc.at g1 h1, g2.move (hc.block om g2.lt h2), fun p hp => (g3 p hp).move (hc.block _ (g3 p hp).lt (h3 p hp)), fun p hp q hq => (g4 p hp q hq).chg hc hS, g5, g6⟩
theorem AsI.below {ab om : Nat} {ms : List (Int × Tk)} {W W' : World} (h : AsI ab om ms W) (hb : Below W.heap.size W W') : AsI ab om ms W' := h.step (S := fun _ => False) (Chg.of_new hb) (fun e => e) (fun e => e) (fun _ _ e => e) (fun _ e => e.elim)
theorem AsI.cell {ab om : Nat} {ms : List (Int × Tk)} {W : World} (h : AsI ab om ms W) : W.cell? ⟨ab, 0, none⟩ = some (.map (some om)) := cell_of_blk h.1
theorem zero51 (W : World) : (zeroValue 51).run Try.prog W = .ok zCk.enc W := by kernel_rfl
theorem zero95 (W : World) : (zeroValue 95).run Try.prog W = .ok (.map none) W := by kernel_rfl
/-- The block of a token's map. -/
def tb (ms : List (Int × Tk)) (t : Int) : Option Nat := (mget ms t).map (·.b)
theorem AsI.outer {ab om : Nat} {ms : List (Int × Tk)} {W : World} (h : AsI ab om ms W) (t : Int) : (Instr.lookup 91 (.map (some om)) (.int .i64 t) false).run Try.prog W = .ok (.map (tb ms t)) W := by
  rw [h.2.1.lookup (keyLaw_int Try.underlying3) Try.underlying91 (zero95 W) t false, mget_map (fun k : Tk => Value.map (some k.b)), tb]
  cases mget ms t <;> rfl
/-- A token's chunk at a sequence number. -/
def ck (ms : List (Int × Tk)) (t s : Int) : Option Ck := mget (tk ms t) s
theorem AsI.inner {ab om : Nat} {ms : List (Int × Tk)} {W : World} (h : AsI ab om ms W) (t s : Int) (ok : Bool) :
    (Instr.lookup 95 (.map (tb ms t)) (.int .i64 s) ok).run Try.prog W = .ok (if ok then .tuple #[((ck ms t s).getD zCk).enc, .bool (ck ms t s).isSome] else ((ck ms t s).getD zCk).enc) W := by
  unfold tb ck tk
  cases e : mget ms t with
  | none => rw [Option.map_none, look_nil (keyLaw_int Try.underlying3) Try.underlying95 (zero51 W) s ok]; rfl
  | some k =>
    rw [Option.map_some, (h.2.2.1 _ (mget_mem e)).lookup (keyLaw_int Try.underlying3) Try.underlying95 (zero51 W) s ok, encL, mget_map Ck.enc]
    cases mget k.l s <;> rfl
theorem AsI.ck_ok {ab om : Nat} {ms : List (Int × Tk)} {W : World} (h : AsI ab om ms W) (t s : Int) : CkOK W ((ck ms t s).getD zCk) := by
  unfold ck tk
  cases e : mget ms t with
  | none => exact Kd.R_nil _ _ _ _ _
  | some k =>
    simp only
    cases e2 : mget k.l s with
    | none => exact Kd.R_nil _ _ _ _ _
    | some r => exact h.2.2.2.1 _ (mget_mem e) _ (mget_mem e2)
set_option maxRecDepth 100000 in
set_option maxHeartbeats 4000000 in
theorem new_calls (w : World) : Calls Try.prog 18 #[] w fun e w' => ∃ ab om, e = .returned (.pointer (some ⟨ab, 0, none⟩)) ∧ AsI ab om [] w' ∧ Below w.heap.size w w' ∧ w.heap.size ≤ ab ∧ w.heap.size ≤ om := by
  have hmm := @run_makeMap Try.prog
  go_enter Try.func18, Try.ntmps18
  go_wp2
  go_ret
  have hb := below_alloc (below_alloc (Below.refl w.heap.size w) (.map #[] 0)) (.cells #[.map (some w.heap.size)] 93)
  have hs : ((w.alloc (.map #[] 0)).alloc (.cells #[.map (some w.heap.size)] 93)).heap[w.heap.size + 1]? = some (.cells #[.map (some w.heap.size)] 93 (0, 0)) := by
    have := hb_new (w.alloc (.map #[] 0)) (.cells #[.map (some w.heap.size)] 93)
    rwa [World.size_alloc] at this
  exact ⟨w.heap.size + 1, w.heap.size, rfl, ⟨hs, (MapIs.new w).move (hb_alloc (hb_new w _) |>.trans (hb_new w _).symm), (fun p hp => by cases hp), (fun p hp => by cases hp), List.Pairwise.nil, by simp⟩, hb, by omega, by omega⟩
end Go.Proofs.Ytogpjenmfgpfiaa.QProgressAssembler
