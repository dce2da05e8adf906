/-
  Maps as lists of keys and values, in the order of their entries: a block that is such a map; what a look-up, a store, a delete and len come to.
-/
import Derived.MapKept
import Derived.WideKeyRuns
import Derived.Maps.Own
import Derived.Below
import Derived.WalkKit
import Derived.KernelRfl
namespace Go.Proofs.Ytofonbfpjfabbaa.Hand
open Go.RowKit
set_option linter.unusedVariables false
set_option linter.unusedSimpArgs false
set_option linter.unusedSectionVars false
theorem List.map_eraseIdx' {α β : Type} (f : α → β) : ∀ (l : List α) (k : Nat), (l.eraseIdx k).map f = (l.map f).eraseIdx k
  | [], _ => rfl
  | _ :: _, 0 => rfl
  | x :: l, k + 1 => by simp [List.map_eraseIdx' f l k]
section lists
variable {κ β γ : Type} [DecidableEq κ]
/-- The value at a key: the first one's. -/
def mget : List (κ × β) → κ → Option β
  | [], _ => none
  | p :: t, x => if p.1 = x then some p.2 else mget t x
def mset : List (κ × β) → κ → β → List (κ × β)
  | [], x, v => [(x, v)]
  | p :: t, x, v => if p.1 = x then (x, v) :: t else p :: mset t x v
def mdel : List (κ × β) → κ → List (κ × β)
  | [], _ => []
  | p :: t, x => if p.1 = x then t else p :: mdel t x
def fidx : List κ → κ → Option Nat
  | [], _ => none
  | y :: t, x => if y = x then some 0 else (fidx t x).map (· + 1)
theorem fidx_get (m : List (κ × β)) (x : κ) : (fidx (m.map Prod.fst) x).bind (fun j => (m[j]?).map Prod.snd) = mget m x := by
  induction m with
  | nil => rfl
  | cons p t ih =>
    rw [List.map_cons, fidx, mget]
    by_cases h : p.1 = x
    · simp [h]
    · rw [if_neg h, if_neg h, ← ih]
      cases fidx (t.map Prod.fst) x <;> simp
theorem fidx_lt {xs : List κ} {x : κ} {j : Nat} (h : fidx xs x = some j) : j < xs.length := by
  induction xs generalizing j with
  | nil => cases h
  | cons y t ih =>
    rw [fidx] at h
    by_cases c : y = x
    · rw [if_pos c] at h; injection h with h; subst h; simp
    · rw [if_neg c] at h
      cases e : fidx t x with
      | none => rw [e] at h; cases h
      | some i => rw [e] at h; injection h with h; subst h; have := ih e; simp; omega
theorem fidx_none_set {m : List (κ × β)} {x : κ} (v : β) (h : fidx (m.map Prod.fst) x = none) : mset m x v = m ++ [(x, v)] := by
  induction m with
  | nil => rfl
  | cons p t ih =>
    rw [List.map_cons, fidx] at h
    by_cases c : p.1 = x
    · rw [if_pos c] at h; cases h
    · rw [if_neg c] at h
      rw [mset, if_neg c, ih (by simpa using h)]
      rfl
theorem fidx_some_set {m : List (κ × β)} {x : κ} (v : β) {j : Nat} (h : fidx (m.map Prod.fst) x = some j) : mset m x v = m.set j (x, v) := by
  induction m generalizing j with
  | nil => cases h
  | cons p t ih =>
    rw [List.map_cons, fidx] at h
    by_cases c : p.1 = x
    · rw [if_pos c] at h; injection h with h; subst h
      rw [mset, if_pos c]; rfl
    · rw [if_neg c] at h
      cases e : fidx (t.map Prod.fst) x with
      | none => rw [e] at h; cases h
      | some i =>
        rw [e] at h; injection h with h; subst h
        rw [mset, if_neg c, ih e]; rfl
theorem fidx_none_del {m : List (κ × β)} {x : κ} (h : fidx (m.map Prod.fst) x = none) : mdel m x = m := by
  induction m with
  | nil => rfl
  | cons p t ih =>
    rw [List.map_cons, fidx] at h
    by_cases c : p.1 = x
    · rw [if_pos c] at h; cases h
    · rw [if_neg c] at h
      rw [mdel, if_neg c, ih (by simpa using h)]
theorem fidx_some_del {m : List (κ × β)} {x : κ} {j : Nat} (h : fidx (m.map Prod.fst) x = some j) : mdel m x = m.eraseIdx j := by
  induction m generalizing j with
  | nil => cases h
  | cons p t ih =>
    rw [List.map_cons, fidx] at h
    by_cases c : p.1 = x
    · rw [if_pos c] at h; injection h with h; subst h
      rw [mdel, if_pos c]; rfl
    · rw [if_neg c] at h
      cases e : fidx (t.map Prod.fst) x with
      | none => rw [e] at h; cases h
      | some i =>
        rw [e] at h; injection h with h; subst h
        rw [mdel, if_neg c, ih e]; rfl
theorem mget_mset_same (m : List (κ × β)) (x : κ) (v : β) : mget (mset m x v) x = some v := by
  induction m with
  | nil => simp [mset, mget]
  | cons p t ih =>
    rw [mset]
    by_cases c : p.1 = x
    · rw [if_pos c]; simp [mget]
    · rw [if_neg c, mget, if_neg c, ih]
theorem mget_mset_ne (m : List (κ × β)) {x y : κ} (v : β) (h : x ≠ y) : mget (mset m x v) y = mget m y := by
  induction m with
  | nil => simp [mset, mget, h]
  | cons p t ih =>
    rw [mset]
    by_cases c : p.1 = x
    · rw [if_pos c, mget, mget, if_neg h, if_neg (by rw [c]; exact h)]
    · rw [if_neg c, mget, mget, ih]
theorem mget_map (f : β → γ) (m : List (κ × β)) (x : κ) : mget (m.map (fun p => (p.1, f p.2))) x = (mget m x).map f := by
  induction m with
  | nil => rfl
  | cons p t ih =>
    rw [List.map_cons, mget, mget]
    by_cases c : p.1 = x <;> simp [c, ih]
theorem mset_map (f : β → γ) (m : List (κ × β)) (x : κ) (v : β) : (mset m x v).map (fun p => (p.1, f p.2)) = mset (m.map (fun p => (p.1, f p.2))) x (f v) := by
  induction m with
  | nil => rfl
  | cons p t ih =>
    rw [List.map_cons, mset, mset]
    by_cases c : p.1 = x <;> simp [c, ih]
theorem mdel_map (f : β → γ) (m : List (κ × β)) (x : κ) : (mdel m x).map (fun p => (p.1, f p.2)) = mdel (m.map (fun p => (p.1, f p.2))) x := by
  induction m with
  | nil => rfl
  | cons p t ih =>
    rw [List.map_cons, mdel, mdel]
    by_cases c : p.1 = x <;> simp [c, ih]
end lists

/-- What a key's type owes: two keys are one where their values are. -/
structure KeyLaw (P : Program) (kt : TypeId) {κ : Type} [DecidableEq κ] (enc : κ → Value) : Prop where
  check : ∀ (e : Bool) (x : κ) (w : World), (Instr.checkKey e 10000 kt (enc x)).run P w = .ok () w
  find : ∀ (es : List MapEntry) (xs : List κ) (x : κ) (w : World), es.map (·.key) = xs.map enc → (Instr.findKey kt (enc x) es).run P w = .ok ((fidx xs x).bind fun j => (es[j]?).map fun e => (j, e.val)) w
  stays : ∀ (x : κ), Instr.sameBits 10000 (enc x) (enc x) = true

theorem findNow_fidx {κ : Type} [DecidableEq κ] {d : TypeDesc} {enc : κ → Value} (hs : ∀ x y, Instr.sameNow d (enc x) (enc y) = some (decide (y = x))) (x : κ) : ∀ (es : List MapEntry) (xs : List κ) (i : Nat), es.map (·.key) = xs.map enc →
    Instr.findNow d (enc x) es i = some ((fidx xs x).bind fun j => (es[j]?).map fun e => (i + j, e.val))
  | [], xs, i, h => by
    cases xs with
    | nil => rfl
    | cons y t => simp at h
  | e :: es, xs, i, h => by
    cases xs with
    | nil => simp at h
    | cons y t =>
      simp only [List.map_cons, List.cons.injEq] at h
      rw [Instr.findNow, h.1, hs, fidx]
      by_cases c : y = x
      · simp [c]
      · rw [decide_eq_false c, if_neg c]
        simp only
        rw [findNow_fidx hs x es t (i + 1) h.2]
        cases fidx t x with
        | none => rfl
        | some j => simp [Nat.add_assoc, Nat.add_comm 1 j]
theorem findAsking_fidx {κ : Type} [DecidableEq κ] {P : Program} {kt : TypeId} {enc : κ → Value} (hs : ∀ x y w, (Op.equal kt (enc x) (enc y)).run P w = .ok (decide (y = x)) w) (x : κ) : ∀ (es : List MapEntry) (xs : List κ) (i : Nat) (w : World), es.map (·.key) = xs.map enc →
    (Instr.findAsking kt (enc x) es i).run P w = .ok ((fidx xs x).bind fun j => (es[j]?).map fun e => (i + j, e.val)) w
  | [], xs, i, w, h => by
    cases xs with
    | nil => simp [Instr.findAsking, fidx, Sem.run_pure]
    | cons y t => simp at h
  | e :: es, xs, i, w, h => by
    cases xs with
    | nil => simp at h
    | cons y t =>
      simp only [List.map_cons, List.cons.injEq] at h
      unfold Instr.findAsking
      simp only [Sem.run_bind, h.1, hs, Result.andThen, fidx]
      by_cases c : y = x
      · simp [c, Sem.run_pure]
      · rw [decide_eq_false c, if_neg c]
        simp only [Bool.false_eq_true, if_false]
        rw [findAsking_fidx hs x es t (i + 1) w h.2]
        cases fidx t x with
        | none => rfl
        | some j => simp [Nat.add_assoc, Nat.add_comm 1 j]
theorem keyLaw_int {P : Program} {kt : TypeId} {q : IntKind} (hu : P.underlying kt = some (.int q)) : KeyLaw P kt (Value.int q) where
  check := fun e x w => MapKept.run_checkKey hu (by simp [MapKept.IsKey]) e _
  find := fun es xs x w h => MapKept.run_findKey hu (by
    have := findNow_fidx (d := .int q) (enc := Value.int q) (fun x y => by simp [Instr.sameNow, eq_comm]; rw [Bool.eq_iff_iff]; simp) x es xs 0 h
    simpa using this)
  stays := fun x => by unfold Instr.sameBits; simp
theorem keyLaw_string {P : Program} {kt : TypeId} (hu : P.underlying kt = some .string) : KeyLaw P kt Value.string where
  check := fun e x w => MapKept.run_checkKey hu (by simp [MapKept.IsKey]) e _
  find := fun es xs x w h => MapKept.run_findKey hu (by
    have := findNow_fidx (d := .string) (enc := Value.string) (fun x y => by simp [Instr.sameNow, eq_comm]; rw [Bool.eq_iff_iff]; simp [MapKept.bytes_beq]) x es xs 0 h
    simpa using this)
  stays := fun x => by unfold Instr.sameBits; simp [MapKept.bytes_beq]

/-- Block b is a map with these keys and values, in the order of its entries. -/
def MapIs {κ : Type} (enc : κ → Value) (W : World) (b : Nat) (m : List (κ × Value)) : Prop :=
  ∃ es clock, W.heap[b]? = some (.map es clock) ∧ es.toList.map (·.key) = m.map (fun p => enc p.1) ∧ es.toList.map (·.val) = m.map (·.2) ∧ es.toList.Pairwise (fun x y => x.born < y.born) ∧ ∀ x ∈ es.toList, x.born < clock
section
variable {κ : Type} {enc : κ → Value} {W W1 : World} {b : Nat} {m : List (κ × Value)}
theorem MapIs.lt (h : MapIs enc W b m) : b < W.heap.size := by
  obtain ⟨es, c, h, _⟩ := h
  exact (Array.getElem?_eq_some_iff.1 h).1
theorem MapIs.move (h : MapIs enc W b m) (hk : W1.heap[b]? = W.heap[b]?) : MapIs enc W1 b m := by
  obtain ⟨es, c, h, r⟩ := h
  exact ⟨es, c, hk.trans h, r⟩
theorem MapIs.new (W : World) : MapIs enc (W.alloc (.map #[] 0)) W.heap.size [] := ⟨#[], 0, heap_alloc_new W _, rfl, rfl, List.Pairwise.nil, by simp⟩
theorem MapIs.below {B : Nat} (h : MapIs enc W b m) (hb : Below B W W1) (hB : b < B) : MapIs enc W1 b m := h.move (hb.block b hB)
theorem MapIs.cells (h : MapIs enc W b m) {g : Nat} {cs : Array Value} {t : TypeId} {fr : Nat × Nat} (hg : W.heap[g]? = some (.cells cs t fr)) : b ≠ g := by
  obtain ⟨es, c, h, _⟩ := h
  rintro rfl
  rw [h] at hg
  cases hg
/-- The same world but for a map's block. -/
def putMap (W : World) (b : Nat) (es : Array MapEntry) (c : Nat) : World := { W with heap := W.heap.setIfInBounds b (.map es c) }
theorem putMap_grown (W : World) (b : Nat) (es : Array MapEntry) (c : Nat) : W.grownBy (putMap W b es c) (some b) :=
  ⟨rfl, rfl, rfl, by simp [putMap], fun k hk hne => by
    have : k ≠ b := fun e => hne (by rw [e])
    simp [putMap, Array.getElem?_setIfInBounds_ne (Ne.symm this)]⟩
variable [DecidableEq κ] {P : Program} {t kt et : TypeId}
theorem entry_at {es : List MapEntry} {m : List (κ × Value)} (h2 : es.map (·.val) = m.map (·.2)) (j : Nat) : (es[j]?).map (·.val) = (m[j]?).map (·.2) := by
  have := congrArg (fun l => l[j]?) h2
  simpa using this
theorem MapIs.lookup (h : MapIs enc W b m) (L : KeyLaw P kt enc) (ht : P.underlying t = some (.map kt et)) {z : Value} (hz : (zeroValue et).run P W = .ok z W) (x : κ) (ok : Bool) :
    (Instr.lookup t (.map (some b)) (enc x) ok).run P W = .ok (if ok then .tuple #[(mget m x).getD z, .bool (mget m x).isSome] else (mget m x).getD z) W := by
  obtain ⟨es, c, hb, h1, h2, _⟩ := h
  have hf := L.find es.toList (m.map Prod.fst) x W (by rw [h1, List.map_map]; rfl)
  unfold Instr.lookup
  simp only [Sem.run_bind, run_underlying ht, Result.andThen, Sem.run_pure, MapKept.run_getObj_map hb, L.check, hf]
  have hg := fidx_get m x
  cases e : fidx (m.map Prod.fst) x with
  | none =>
    rw [e] at hg
    rw [← hg]
    simp only [Option.bind_none, Sem.run_bind, hz, Result.andThen, Sem.run_pure]
    cases ok <;> rfl
  | some j =>
    rw [e] at hg
    rw [← hg]
    have hj := fidx_lt e
    rw [List.length_map] at hj
    have hl : j < es.toList.length := by
      have := congrArg List.length h2
      simp only [List.length_map] at this
      omega
    have he := entry_at h2 j
    simp only [Option.bind_some, List.getElem?_eq_getElem hl, Option.map_some] at he ⊢
    rw [← he]
    cases ok <;> rfl
theorem look_nil (L : KeyLaw P kt enc) (ht : P.underlying t = some (.map kt et)) {z : Value} (hz : (zeroValue et).run P W = .ok z W) (x : κ) (ok : Bool) :
    (Instr.lookup t (.map none) (enc x) ok).run P W = .ok (if ok then .tuple #[z, .bool false] else z) W := by
  have hf := L.find [] [] x W rfl
  unfold Instr.lookup
  simp only [Sem.run_bind, run_underlying ht, Result.andThen, Sem.run_pure, L.check, hf, fidx, Option.bind_none, hz] <;> cases ok <;> rfl
theorem MapIs.update (h : MapIs enc W b m) (L : KeyLaw P kt enc) (ht : P.underlying t = some (.map kt et)) (x : κ) (v : Value) :
    ∃ W', (Instr.mapUpdate t (.map (some b)) (enc x) v).run P W = .ok () W' ∧ MapIs enc W' b (mset m x v) ∧ W.grownBy W' (some b) := by
  obtain ⟨es, c, hb, h1, h2, h3, h4⟩ := h
  have hlt : b < W.heap.size := (Array.getElem?_eq_some_iff.1 hb).1
  have hf := L.find es.toList (m.map Prod.fst) x W (by rw [h1, List.map_map]; rfl)
  unfold Instr.mapUpdate
  simp only [Sem.run_bind, run_underlying ht, Result.andThen, Sem.run_pure, MapKept.run_getObj_map hb, L.check, hf]
  cases e : fidx (m.map Prod.fst) x with
  | none =>
    simp only [Option.bind_none]
    refine ⟨putMap W b (es.push { key := enc x, val := v, born := c }) (c + 1), MapKept.run_setObj_map _ hb, ⟨_, _, (MapKept.heap_set hb).1, ?_, ?_, ?_, ?_⟩, putMap_grown _ _ _ _⟩
    · rw [fidx_none_set v e]; simp [h1]
    · rw [fidx_none_set v e]; simp [h2]
    · rw [Array.toList_push, List.pairwise_append]
      exact ⟨h3, List.pairwise_singleton _ _, fun y hy z hz => by rw [List.mem_singleton] at hz; subst hz; exact h4 y hy⟩
    · intro y hy
      rw [Array.toList_push, List.mem_append, List.mem_singleton] at hy
      rcases hy with hy | rfl
      · exact Nat.lt_succ_of_lt (h4 y hy)
      · exact Nat.lt_succ_self _
  | some j =>
    have hj := fidx_lt e
    rw [List.length_map] at hj
    have hl : j < es.toList.length := by
      have := congrArg List.length h2
      simp only [List.length_map] at this
      omega
    have hl2 : j < es.size := by simpa using hl
    have hkey : es[j].key = enc x := by
      have q1 : (es.toList.map (·.key))[j]? = (m.map (fun p => enc p.1))[j]? := by rw [h1]
      have q2 : ∀ (xs : List κ) (j : Nat), fidx xs x = some j → xs[j]? = some x := by
        intro xs
        induction xs with
        | nil => intro j h; cases h
        | cons y t ih =>
          intro j h
          rw [fidx] at h
          by_cases c : y = x
          · rw [if_pos c] at h; injection h with h; subst h; simp [c]
          · rw [if_neg c] at h
            cases e : fidx t x with
            | none => rw [e] at h; cases h
            | some i => rw [e] at h; injection h with h; subst h; simpa using ih i e
      have q3 := q2 _ j e
      simp only [List.getElem?_map] at q1 q3
      rw [List.getElem?_eq_getElem hl] at q1
      cases em : m[j]? with
      | none => rw [em] at q3; cases q3
      | some p =>
        rw [em] at q1 q3
        simp only [Option.map_some, Option.some.injEq] at q1 q3
        rw [q3] at q1
        simpa using q1
    have hst : (Instr.keyThatStays (enc x) (enc x)).run P W = .ok (enc x) W := by
      unfold Instr.keyThatStays
      rw [if_pos (L.stays x)]
      rfl
    have e1 : (((es[j]?).map (·.key)).getD (enc x)) = enc x := by
      rw [Array.getElem?_eq_getElem hl2]
      simp [hkey]
    simp only [Option.bind_some, List.getElem?_eq_getElem hl, Option.map_some, Sem.run_bind, e1, hst, Result.andThen]
    refine ⟨putMap W b (es.modify j fun e => { e with key := enc x, val := v }) c, MapKept.run_setObj_map _ hb, ⟨_, _, (MapKept.heap_set hb).1, ?_, ?_, ?_, ?_⟩, putMap_grown _ _ _ _⟩
    · rw [fidx_some_set v e, Array.toList_modify]
      refine List.ext_getElem? (fun i => ?_)
      have q1 := congrArg (fun l => l[i]?) h1
      simp only [List.getElem?_map, List.getElem?_modify, List.getElem?_set] at q1 ⊢
      by_cases c : j = i
      · subst c
        simp [hj, List.getElem?_eq_getElem hl]
      · simpa [c] using q1
    · rw [fidx_some_set v e, Array.toList_modify]
      refine List.ext_getElem? (fun i => ?_)
      have q1 := congrArg (fun l => l[i]?) h2
      simp only [List.getElem?_map, List.getElem?_modify, List.getElem?_set] at q1 ⊢
      by_cases c : j = i
      · subst c
        simp [hj, List.getElem?_eq_getElem hl]
      · simpa [c] using q1
    · have : (es.modify j fun e => { e with key := enc x, val := v }).toList.map (·.born) = es.toList.map (·.born) := by
        rw [Array.toList_modify]
        refine List.ext_getElem? (fun i => ?_)
        simp only [List.getElem?_map, List.getElem?_modify]
        by_cases c : j = i
        · subst c; simp [List.getElem?_eq_getElem hl]
        · simp [c]
      rw [← List.pairwise_map (f := fun e : MapEntry => e.born) (R := fun x y => x < y)] at h3 ⊢
      rw [this]; exact h3
    · have : (es.modify j fun e => { e with key := enc x, val := v }).toList.map (·.born) = es.toList.map (·.born) := by
        rw [Array.toList_modify]
        refine List.ext_getElem? (fun i => ?_)
        simp only [List.getElem?_map, List.getElem?_modify]
        by_cases c : j = i
        · subst c; simp [List.getElem?_eq_getElem hl]
        · simp [c]
      intro y hy
      have hy2 : y.born ∈ (es.modify j fun e => { e with key := enc x, val := v }).toList.map (·.born) := List.mem_map_of_mem hy
      rw [this] at hy2
      obtain ⟨z, hz, hzb⟩ := List.mem_map.1 hy2
      rw [← hzb]
      exact h4 z hz
theorem MapIs.drop (h : MapIs enc W b m) (L : KeyLaw P kt enc) (ht : P.underlying t = some (.map kt et)) (x : κ) (ty : TypeId) :
    ∃ W', (Builtin.delete_ #[t, kt] ty #[.map (some b), enc x]).run P W = .ok (.tuple #[]) W' ∧ MapIs enc W' b (mdel m x) ∧ W.grownBy W' (some b) := by
  obtain ⟨es, c, hb, h1, h2, h3, h4⟩ := h
  have hf := L.find es.toList (m.map Prod.fst) x W (by rw [h1, List.map_map]; rfl)
  unfold Builtin.delete_
  simp only [List.getElem?_toArray, List.getElem?_cons_zero, List.getElem?_cons_succ, Sem.run_bind, run_underlying ht, Result.andThen, Sem.run_pure, MapKept.run_getObj_map hb, L.check, hf]
  cases e : fidx (m.map Prod.fst) x with
  | none =>
    simp only [Option.bind_none]
    refine ⟨putMap W b es c, ?_, ⟨_, _, (MapKept.heap_set hb).1, ?_, ?_, h3, h4⟩, putMap_grown _ _ _ _⟩
    · simp only [Sem.run_bind, MapKept.run_setObj_map _ hb, Result.andThen]; rfl
    · rw [fidx_none_del e]; exact h1
    · rw [fidx_none_del e]; exact h2
  | some j =>
    have hj := fidx_lt e
    rw [List.length_map] at hj
    have hl : j < es.toList.length := by
      have := congrArg List.length h2
      simp only [List.length_map] at this
      omega
    simp only [Option.bind_some, List.getElem?_eq_getElem hl, Option.map_some]
    have et : (es.eraseIdxIfInBounds j).toList = es.toList.eraseIdx j := by simp
    refine ⟨putMap W b (es.eraseIdxIfInBounds j) c, ?_, ⟨_, _, (MapKept.heap_set hb).1, ?_, ?_, ?_, ?_⟩, putMap_grown _ _ _ _⟩
    · simp only [Sem.run_bind, MapKept.run_setObj_map _ hb, Result.andThen]; rfl
    · rw [fidx_some_del e, et, List.map_eraseIdx', List.map_eraseIdx', h1]
    · rw [fidx_some_del e, et, List.map_eraseIdx', List.map_eraseIdx', h2]
    · rw [et]; exact h3.sublist (List.eraseIdx_sublist _ _)
    · rw [et]; exact fun y hy => h4 y ((List.eraseIdx_sublist _ _).mem hy)
theorem MapIs.len (h : MapIs enc W b m) (ht : P.underlying t = some (.map kt et)) (ty : TypeId) : (Builtin.len_ #[t] ty #[.map (some b)]).run P W = .ok (.int .i64 m.length) W := by
  obtain ⟨es, c, hb, h1, h2, _⟩ := h
  have : es.size = m.length := by
    have := congrArg List.length h2
    simpa using this
  unfold Builtin.len_
  simp only [List.getElem?_toArray, List.getElem?_cons_zero, Sem.run_bind, run_underlying ht, Result.andThen, Sem.run_pure, MapKept.run_getObj_map hb, goInt, this]
end
end Go.Proofs.Ytofonbfpjfabbaa.Hand
