/-
  Opens a law's arguments: data that can be read (strings, whole numbers, bools, structs, slices of these, nested) are of their kind (the words' Kd); and behind the call they read as before.
-/
import Derived.Test.YtpkdgdhfhgelbaaWWords
import Derived.WalkKit
import Derived.ProofKit
import Derived.OpenShut
import Derived.ShutString
import Derived.ChangeOld
import Derived.Below
import Derived.SizedLaws
namespace Go.Proofs.Ytpkdgdhfhgelbaa.Door
open Go.ChangeShapes Go.WideShapes Go.ChangeAt Go.RowKit Go.Proofs.YtpkdgdhfhgelbaaW.PrintWords
open Go.ChangeMaps (open_string shut_string)

/-- What can be read at type t is of kind d, and Ok. -/
def Opens {α : Type} (P : Program) (t : TypeId) (d : Kd α) (Ok : α → Prop) : Prop :=
  ∀ {H : Type} (enc : TypeId × Value → H) (fuel : Nat) (w : World) (base : Nat) (spare : Nat → Bool) (held : Bool) (cs : List Value) (dd : DataW H) (ps : List MemPlace),
    DataW.trod enc P w base spare held fuel t cs = some (dd, ps) → (∀ n ∈ DataW.weights P t dd, n ≤ reachBytes) → ∃ a, d.K w a cs ∧ Ok a

theorem opens_mono {α : Type} {P : Program} {t : TypeId} {d : Kd α} {Ok Ok' : α → Prop} (h : Opens P t d Ok) (hk : ∀ a, Ok a → Ok' a) : Opens P t d Ok' := by
  intro H enc fuel w base spare held cs dd ps hf hn
  obtain ⟨a, h1, h2⟩ := h enc fuel w base spare held cs dd ps hf hn
  exact ⟨a, h1, hk a h2⟩

theorem opens_int {P : Program} {t : TypeId} {k : IntKind} (hu : P.underlying t = some (.int k)) : Opens P t (Kd.int k) (fun x => (Lit.int k x).wf = true) := by
  intro H enc fuel w base spare held cs dd ps hf hn
  cases fuel with
  | zero => simp [DataW.trod] at hf
  | succ n =>
    unfold DataW.trod at hf
    rw [hu] at hf
    split at hf <;> try (simp_all; done)
    rename_i k1 k2 m hk
    obtain rfl : k = k1 := by simpa using hk
    split at hf
    · rename_i hc
      obtain ⟨rfl, hw⟩ := hc
      exact ⟨m, rfl, hw⟩
    · simp at hf

theorem opens_bool {P : Program} {t : TypeId} (hu : P.underlying t = some .bool) : Opens P t Kd.bool (fun _ => True) := by
  intro H enc fuel w base spare held cs dd ps hf hn
  cases fuel with
  | zero => simp [DataW.trod] at hf
  | succ n =>
    unfold DataW.trod at hf
    rw [hu] at hf
    split at hf <;> try (simp_all; done)
    rename_i b hk
    exact ⟨b, rfl, trivial⟩

theorem opens_string {P : Program} {t : TypeId} (hu : P.underlying t = some .string) : Opens P t Kd.string (fun s => s.size ≤ 140737488351232) := by
  intro H enc fuel w base spare held cs dd ps hf hn
  cases fuel with
  | zero => simp [DataW.trod] at hf
  | succ n =>
    unfold DataW.trod at hf
    rw [hu] at hf
    split at hf <;> try (simp_all; done)
    rename_i s hk
    split at hf
    · obtain ⟨rfl, rfl⟩ := Prod.mk.inj (Option.some.inj hf)
      refine ⟨s, rfl, ?_⟩
      have h := hn s.data.toList.length (by simp [DataW.weights])
      have e : s.data.toList.length = s.size := Array.length_toList
      rw [e] at h
      exact h
    · simp at hf

theorem opens_iso {α β : Type} {P : Program} {t : TypeId} {d : Kd α} {Ok : α → Prop} {f : β → α} (g : α → β) (hg : ∀ a, f (g a) = a) (h : Opens P t d Ok) : Opens P t (Kd.iso d f) (fun b => Ok (f b)) := by
  intro H enc fuel w base spare held cs dd ps hf hn
  obtain ⟨a, h1, h2⟩ := h enc fuel w base spare held cs dd ps hf hn
  exact ⟨g a, by show d.K w (f (g a)) cs; rw [hg]; exact h1, by show Ok (f (g a)); rw [hg]; exact h2⟩

theorem mapM_some_get {α β : Type} {f : α → Option β} : ∀ {l : List α} {r : List β}, l.mapM f = some r → r.length = l.length ∧ ∀ i (h : i < l.length) (h' : i < r.length), f l[i] = some r[i]
  | [], r, h => by
    obtain rfl : r = [] := by simpa using h.symm
    exact ⟨rfl, fun i hi => by simp at hi⟩
  | a :: l, r, h => by
    rw [List.mapM_cons] at h
    cases ha : f a with
    | none => rw [ha] at h; simp at h
    | some b =>
      rw [ha] at h
      cases hl : l.mapM f with
      | none => rw [hl] at h; simp at h
      | some bs =>
        rw [hl] at h
        obtain rfl : b :: bs = r := by simpa using h
        obtain ⟨h1, h2⟩ := mapM_some_get hl
        refine ⟨by simp [h1], fun i hi hi' => ?_⟩
        cases i with
        | zero => exact ha
        | succ i => exact h2 i (by simpa using hi) (by simpa using hi')

/-- The fields of a struct, from an offset on. -/
def OpensF {α : Type} (P : Program) (off : Nat) (fs : List Field) (d : Kd α) (Ok : α → Prop) : Prop :=
  ∀ {H : Type} (enc : TypeId × Value → H) (fuel : Nat) (w : World) (base : Nat) (spare : Nat → Bool) (held : Bool) (cs : List Value) (xs : List (DataW H × List MemPlace)),
    fs.mapM (fun f => DataW.trod enc P w base spare held fuel f.type ((cs.drop f.offset).take (P.cellsOf f.type))) = some xs →
    (∀ n ∈ DataW.weightsEach P (fs.map (·.type)) (xs.map (·.1)), n ≤ reachBytes) → ∃ a, d.K w a ((cs.drop off).take d.sz) ∧ Ok a

theorem opensF_one {α : Type} {P : Program} {off : Nat} {f : Field} {d : Kd α} {Ok : α → Prop} (ho : f.offset = off) (hs : P.cellsOf f.type = d.sz) (h : Opens P f.type d Ok) : OpensF P off [f] d Ok := by
  intro H enc fuel w base spare held cs xs hm hn
  rw [List.mapM_cons] at hm
  cases hx : DataW.trod enc P w base spare held fuel f.type ((cs.drop f.offset).take (P.cellsOf f.type)) with
  | none => rw [hx] at hm; simp at hm
  | some x =>
    rw [hx] at hm
    obtain rfl : [x] = xs := by simpa using hm
    have := h enc fuel w base spare held _ x.1 x.2 hx (fun n hh => hn n (by simp [DataW.weightsEach, hh]))
    rwa [ho, hs] at this

theorem opensF_cons {α β : Type} {P : Program} {off off' : Nat} {f : Field} {fs : List Field} {d : Kd α} {e : Kd β} {Ok : α → Prop} {Ok' : β → Prop} (ho : f.offset = off) (hs : P.cellsOf f.type = d.sz) (ho' : off' = off + d.sz)
    (h : Opens P f.type d Ok) (h' : OpensF P off' fs e Ok') : OpensF P off (f :: fs) (Kd.pair d e) (fun x => Ok x.1 ∧ Ok' x.2) := by
  intro H enc fuel w base spare held cs xs hm hn
  rw [List.mapM_cons] at hm
  cases hx : DataW.trod enc P w base spare held fuel f.type ((cs.drop f.offset).take (P.cellsOf f.type)) with
  | none => rw [hx] at hm; simp at hm
  | some x =>
    rw [hx] at hm
    cases hy : fs.mapM (fun f => DataW.trod enc P w base spare held fuel f.type ((cs.drop f.offset).take (P.cellsOf f.type))) with
    | none => rw [hy] at hm; simp at hm
    | some ys =>
      rw [hy] at hm
      obtain rfl : x :: ys = xs := by simpa using hm
      obtain ⟨a, ha, oa⟩ := h enc fuel w base spare held _ x.1 x.2 hx (fun n hh => hn n (by simp [DataW.weightsEach, hh]))
      obtain ⟨b, hb, ob⟩ := h' enc fuel w base spare held cs ys hy (fun n hh => hn n (by simp [DataW.weightsEach, hh]))
      rw [ho, hs] at ha
      refine ⟨(a, b), ⟨_, _, ?_, ha, hb⟩, oa, ob⟩
      show List.take (d.sz + e.sz) (List.drop off cs) = _
      rw [List.take_add, List.drop_drop, ho']

theorem opens_struct {α : Type} {P : Program} {t : TypeId} {fs : Array Field} {l : List Field} {d : Kd α} {Ok : α → Prop} (hu : P.underlying t = some (.struct fs)) (hl : fs.toList = l) (hs : P.cellsOf t = d.sz) (h : OpensF P 0 l d Ok) : Opens P t d Ok := by
  subst hl
  intro H enc fuel w base spare held cs dd ps hf hn
  cases fuel with
  | zero => simp [DataW.trod] at hf
  | succ n =>
    unfold DataW.trod at hf
    rw [hu] at hf
    simp only at hf
    split at hf
    · rename_i hlen
      cases hx : fs.toList.mapM (fun f => DataW.trod enc P w base spare held n f.type ((cs.drop f.offset).take (P.cellsOf f.type))) with
      | none => rw [hx] at hf; simp at hf
      | some xs =>
        rw [hx] at hf
        simp only [Option.map_some, Option.some.injEq, Prod.mk.injEq] at hf
        obtain ⟨rfl, rfl⟩ := hf
        obtain ⟨a, h1, h2⟩ := h enc n w base spare held cs xs hx (fun m hm => hn m (by simpa [DataW.weights, hu] using hm))
        refine ⟨a, ?_, h2⟩
        rw [List.drop_zero, List.take_of_length_le (by omega)] at h1
        exact h1
    · simp at hf

theorem weightsAll_mem {H : Type} {P : Program} {e : TypeId} : ∀ {l : List (DataW H)} {d : DataW H} {n : Nat}, d ∈ l → n ∈ DataW.weights P e d → n ∈ DataW.weightsAll P e l
  | x :: l, d, n, hd, hn => by
    simp only [DataW.weightsAll, List.mem_append]
    rcases List.mem_cons.1 hd with rfl | hd
    · exact .inl hn
    · exact .inr (weightsAll_mem hd hn)

theorem cells?_get {w : World} {base : Nat} {a : Addr} {n : Nat} {c : List Value} (h : w.cells? base a n = some c) : c.length = n ∧ ∀ i u, c[i]? = some u → w.cell? (a.add i) = some u := by
  unfold World.cells? at h
  split at h
  · obtain ⟨h1, h2⟩ := mapM_some_get h
    refine ⟨by simpa using h1, fun i u hu => ?_⟩
    obtain ⟨hi, rfl⟩ := List.getElem?_eq_some_iff.1 hu
    have := h2 i (by rw [← h1]; exact hi) hi
    simpa using this
  · simp at h

theorem addr_add_add (a : Addr) (x y : Nat) : (a.add x).add y = a.add (x + y) := by
  unfold Addr.add
  by_cases hx : x = 0
  · subst hx; simp
  · by_cases hy : y = 0
    · subst hy; simp
    · rw [if_neg hx, if_neg hy, if_neg (by omega)]
      simp [Nat.add_assoc]

theorem opens_slice {α : Type} {P : Program} {t e : TypeId} {d : Kd α} {Ok : α → Prop} {B : Nat} (hu : P.underlying t = some (.slice e)) (hs : P.cellsOf e = d.sz) (hB : P.bytesOf e = B) (h : Opens P e d Ok) :
    Opens P t (Kd.slice e d) (fun xs => (xs.length ≤ maxLen ∧ xs.length * B ≤ 140737488351232) ∧ ∀ x ∈ xs, Ok x) := by
  subst hB
  intro H enc fuel w base spare held cs dd ps hf hn
  cases fuel with
  | zero => simp [DataW.trod] at hf
  | succ n =>
    unfold DataW.trod at hf
    rw [hu] at hf
    split at hf <;> try (simp_all; done)
    · refine ⟨[], ⟨none, 0, rfl, Nat.le_refl _, rfl, by simp, fun hh => absurd hh (by simp)⟩, ⟨by simp, by simp⟩, by simp⟩
    · rename_i e' a len cap he
      obtain rfl : e = e' := by simpa using he
      simp only at hf
      split at hf
      · rename_i hc
        cases hm : (List.range len).mapM (fun i => (w.cells? base (a.add (i * P.cellsOf e)) (P.cellsOf e)).bind (DataW.trod enc P w base spare held n e)) with
        | none => rw [hm] at hf; simp at hf
        | some elems =>
          rw [hm] at hf
          simp only [Option.bind_some] at hf
          obtain ⟨hlen, hget⟩ := mapM_some_get hm
          simp only [List.length_range] at hlen
          obtain ⟨rest, hdd⟩ : ∃ rest : List (DataW H), dd = .slice (elems.map (·.1)) rest := by
            split at hf
            · simp only [Option.map_eq_some_iff] at hf
              obtain ⟨r, _, hr⟩ := hf
              exact ⟨_, (Prod.mk.inj hr).1.symm⟩
            · simp only [Option.map_some, Option.some.injEq, Prod.mk.injEq] at hf
              exact ⟨_, hf.1.symm⟩
          have key : ∀ i, i < len → ∃ (x : α) (c : List Value), d.K w x c ∧ Ok x ∧ c.length = d.sz ∧ ∀ j u, c[j]? = some u → w.cell? (a.add (i * d.sz + j)) = some u := by
            intro i hi
            have hg := hget i (by simpa using hi) (by rw [hlen]; exact hi)
            simp only [List.getElem_range] at hg
            cases hc2 : w.cells? base (a.add (i * P.cellsOf e)) (P.cellsOf e) with
            | none => rw [hc2] at hg; simp at hg
            | some c =>
              rw [hc2] at hg
              simp only [Option.bind_some] at hg
              obtain ⟨x, h1, h2⟩ := h enc n w base spare held c _ _ hg (fun m hm2 => hn m (by
                subst hdd
                simp only [DataW.weights, hu, List.mem_cons, List.mem_append]
                exact .inr (.inl (weightsAll_mem (d := (elems[i]'(by rw [hlen]; exact hi)).1) (List.mem_map.2 ⟨_, List.getElem_mem _, rfl⟩) hm2))))
              obtain ⟨h3, h4⟩ := cells?_get hc2
              refine ⟨x, c, h1, h2, by rw [h3, hs], fun j u hu2 => ?_⟩
              have := h4 j u hu2
              rwa [addr_add_add, hs] at this
          have pick : ∃ xs : List α, xs.length = len ∧ ∀ i x, xs[i]? = some x → ∃ c : List Value, d.K w x c ∧ Ok x ∧ c.length = d.sz ∧ ∀ j u, c[j]? = some u → w.cell? (a.add (i * d.sz + j)) = some u := by
            clear hget hm hf hn hdd hc
            clear hlen elems
            induction len with
            | zero => exact ⟨[], rfl, fun i x hx => by simp at hx⟩
            | succ m ih =>
              obtain ⟨xs, hx1, hx2⟩ := ih (fun i hi => key i (by omega))
              obtain ⟨y, c, hy⟩ := key m (by omega)
              refine ⟨xs ++ [y], by simp [hx1], fun i x hx => ?_⟩
              by_cases hi : i < m
              · rw [List.getElem?_append_left (by omega)] at hx
                exact hx2 i x hx
              · obtain rfl : i = m := by
                  have := (List.getElem?_eq_some_iff.1 hx).1
                  simp [hx1] at this
                  omega
                rw [List.getElem?_append_right (by omega), hx1] at hx
                simp at hx
                subst hx
                exact ⟨c, hy⟩
          obtain ⟨xs, hx1, hx2⟩ := pick
          refine ⟨xs, ⟨some a, cap, by rw [hx1], by rw [hx1]; exact hc.2.1, ⟨rfl, by rw [hx1]; have := hc.2.2; unfold maxLen at this; omega, fun _ => ⟨a, rfl, fun j p hj => ?_⟩⟩⟩, ⟨by rw [hx1]; omega, ?_⟩, ?_⟩
          · obtain ⟨c, h1, _, h3, h4⟩ := hx2 j p hj
            exact ⟨c, h3, h1, h4⟩
          · subst hdd
            have := hn ((elems.map (·.1)).length * P.bytesOf e + rest.length * P.bytesOf e) (by simp [DataW.weights, hu, Nat.add_mul])
            rw [List.length_map, hlen] at this
            rw [hx1]
            unfold reachBytes at this
            omega
          · intro x hx
            obtain ⟨i, hi⟩ := List.mem_iff_getElem?.1 hx
            obtain ⟨c, _, h2, _⟩ := hx2 i x hi
            exact h2
      · simp at hf

/-- An argument's weights are among the row's. -/
theorem weights_of {H : Type} {P : Program} {ts : List TypeId} {ds : List (DataW H)} (h : (DataW.weightsEach P ts ds).all (· ≤ reachBytes) = true) {j : Nat} {t : TypeId} {d : DataW H} (ht : ts[j]? = some t) (hd : ds[j]? = some d) :
    ∀ n ∈ DataW.weights P t d, n ≤ reachBytes := by
  intro n hn
  have := List.all_eq_true.1 h _ (DataW.weights_mem_each ht hd n hn)
  simpa using this

section
variable {H : Type} {enc : TypeId × Value → H} {P : Program} {W : World} {base b0 : Nat} {spare : Nat → Bool} {held : Bool} {r : Reach}

/-- A slice that came in. -/
theorem top_slice {α : Type} {t e : TypeId} {d : Kd α} {Ok : List α → Prop} {v : Value} {dd : DataW H} {ps : List MemPlace} (hu : P.underlying t = some (.slice e)) (h : Opens P t (Kd.slice e d) Ok) (hv : Value.okWide P W r b0 t v) (ht : DataW.Trod enc P W base spare held t v dd ps)
    (hw : ∀ n ∈ DataW.weights P t dd, n ≤ reachBytes) : ∃ (A : Option Addr) (c : Nat) (xs : List α), v = .slice A xs.length c ∧ xs.length ≤ c ∧ Kd.C d W A xs.length xs ∧ Ok xs := by
  obtain ⟨a, len, cap, rfl⟩ := okWide_slice hu hv
  obtain ⟨fuel, hf⟩ := ht
  obtain ⟨xs, ⟨A, c, h1, h2, h3⟩, h4⟩ := h enc fuel W base spare held _ dd ps hf hw
  simp only [Value.cells, List.cons.injEq, Value.slice.injEq, and_true] at h1
  obtain ⟨rfl, rfl, rfl⟩ := h1
  exact ⟨_, _, xs, rfl, h2, h3, h4⟩

/-- A struct that came in. -/
theorem top_struct {α : Type} {t : TypeId} {fs : Array Field} {d : Kd α} {Ok : α → Prop} {v : Value} {dd : DataW H} {ps : List MemPlace} (hu : P.underlying t = some (.struct fs)) (h : Opens P t d Ok) (hv : Value.okWide P W r b0 t v) (ht : DataW.Trod enc P W base spare held t v dd ps)
    (hw : ∀ n ∈ DataW.weights P t dd, n ≤ reachBytes) : ∃ (x : α) (cs : Array Value), v = .agg cs ∧ d.K W x cs.toList ∧ Ok x := by
  obtain ⟨cs, rfl, _⟩ : ∃ cs, v = .agg cs ∧ cs.size = P.cellsOf t := by
    unfold Value.okWide at hv
    rw [hu] at hv
    obtain ⟨cs, h1, h2, _⟩ := hv
    exact ⟨cs, h1, h2⟩
  obtain ⟨fuel, hf⟩ := ht
  obtain ⟨x, h1, h2⟩ := h enc fuel W base spare held _ dd ps hf hw
  exact ⟨x, cs, rfl, h1, h2⟩

/-- Each argument reads behind the call as it did. -/
theorem trodAll_behind {W' : World} (hl : laidOutB P = true) : ∀ {ts : List TypeId} {vs : List Value} {ds : List (DataW H)} {ps : List MemPlace}, (∀ t ∈ ts, P.readableRec t = true ∧ t < P.types.size) →
    DataW.TrodAll enc P W 0 (fun _ => true) true ts vs ds ps → Below W.heap.size W W' → DataW.TrodAll enc P W' 0 (fun b => decide (b < W.heap.size)) true ts vs ds ps
  | [], [], [], ps, _, h, _ => h
  | t :: ts, v :: vs, d :: ds, ps, hts, h, hb => by
    have hlt := DataW.TrodAll.lt h
    obtain ⟨p, q, h1, h2, rfl⟩ := h
    obtain ⟨r1, r2⟩ := hts t List.mem_cons_self
    exact ⟨p, q, Below.trod hl r1 r2 h1 hb (fun x hx => hlt x (List.mem_append_left _ hx)), trodAll_behind hl (fun t' ht' => hts t' (List.mem_cons_of_mem _ ht')) h2 hb, rfl⟩
  | [], _ :: _, _, _, _, h, _ => by simp [DataW.TrodAll] at h
  | [], [], _ :: _, _, _, h, _ => by simp [DataW.TrodAll] at h
  | _ :: _, [], _, _, _, h, _ => by simp [DataW.TrodAll] at h
  | _ :: _, _ :: _, [], _, _, h, _ => by simp [DataW.TrodAll] at h
end
end Go.Proofs.Ytpkdgdhfhgelbaa.Door
