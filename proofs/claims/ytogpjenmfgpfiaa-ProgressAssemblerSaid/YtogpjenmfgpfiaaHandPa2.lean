/-
  ProgressAssembler: bounds.
-/
import Derived.Test.YtogpjenmfgpfiaaHandPa1
namespace Go.Proofs.Ytogpjenmfgpfiaa.QProgressAssembler
open Go.RowKit Go.Proofs.YtogpjenmfgpfiaaW.PrintWords Go.Proofs.YtogpjenmfgpfiaaW.PrintLast Go.Proofs.YtogpjenmfgpfiaaW.PrintMore Go.Proofs.Ytogpjenmfgpfiaa.Hand
attribute [local go_sem] max2_int min2_int max_two min_two max_three min_three max_four min_four
set_option linter.unusedVariables false
set_option linter.unusedSimpArgs false
/-- What bounds knows of the places ix of a token's map. -/
structure BndI (l : List (Int × Ck)) (ix : List Nat) (f g : Int) : Prop where
  le : ∀ i ∈ ix, ∀ q, l[i]? = some q → q.1 ≤ g ∧ (q.2.v.f2 = true → f ≠ -1)
  top : g = -1 ∧ ix = [] ∨ ∃ i ∈ ix, ∃ q, l[i]? = some q ∧ q.1 = g
  fin : f = -1 ∨ ∃ i ∈ ix, ∃ q, l[i]? = some q ∧ q.2.v.f2 = true ∧ q.1 = f
/-- What bounds says of a token's map. -/
structure Bnd (l : List (Int × Ck)) (f g : Int) : Prop where
  le : ∀ q ∈ l, q.1 ≤ g ∧ (q.2.v.f2 = true → f ≠ -1)
  top : g = -1 ∧ l = [] ∨ ∃ q ∈ l, q.1 = g
  fin : f = -1 ∨ ∃ q ∈ l, q.2.v.f2 = true ∧ q.1 = f
theorem BndI.start (l : List (Int × Ck)) : BndI l [] (-1) (-1) := ⟨fun i hi => absurd hi List.not_mem_nil, Or.inl ⟨rfl, rfl⟩, Or.inl rfl⟩
theorem BndI.step {l : List (Int × Ck)} {ix : List Nat} {f g f' g' : Int} (h : BndI l ix f g) {i : Nat} {q : Int × Ck} (hq : l[i]? = some q) (h0 : 0 ≤ q.1) (hf : f' = if q.2.v.f2 = true then q.1 else f) (hg : g' = if g < q.1 then q.1 else g) : BndI l (i :: ix) f' g' := by
  subst hf hg
  have hm : ∀ j q', l[j]? = some q' → j ∈ i :: ix → q' = q ∨ j ∈ ix := fun j q' hj hx => by
    rcases List.mem_cons.1 hx with rfl | hx
    · rw [hq] at hj; injection hj with hj; exact .inl hj.symm
    · exact .inr hx
  refine ⟨fun j hj q' hq' => ?_, ?_, ?_⟩
  · rcases hm j q' hq' hj with rfl | hx
    · refine ⟨by split <;> omega, fun e => ?_⟩
      rw [if_pos e]; omega
    · obtain ⟨a1, a2⟩ := h.le j hx q' hq'
      refine ⟨by split <;> omega, fun e => ?_⟩
      split
      · omega
      · exact a2 e
  · by_cases c : g < q.1
    · rw [if_pos c]; exact .inr ⟨i, List.mem_cons_self, q, hq, rfl⟩
    · rw [if_neg c]
      rcases h.top with ⟨rfl, rfl⟩ | ⟨j, hj, q', hq', e⟩
      · omega
      · exact .inr ⟨j, List.mem_cons_of_mem _ hj, q', hq', e⟩
  · by_cases c : q.2.v.f2 = true
    · rw [if_pos c]; exact .inr ⟨i, List.mem_cons_self, q, hq, c, rfl⟩
    · rw [if_neg c]
      rcases h.fin with e | ⟨j, hj, q', hq', e⟩
      · exact .inl e
      · exact .inr ⟨j, List.mem_cons_of_mem _ hj, q', hq', e⟩
theorem BndI.all {l : List (Int × Ck)} {ix : List Nat} {f g : Int} (h : BndI l ix f g) (ha : ∀ i, i < l.length → i ∈ ix) : Bnd l f g := by
  have hm : ∀ q ∈ l, ∃ i ∈ ix, l[i]? = some q := fun q hq => by
    obtain ⟨i, hi, e⟩ := List.mem_iff_getElem.1 hq
    exact ⟨i, ha i hi, by rw [List.getElem?_eq_getElem hi, e]⟩
  refine ⟨fun q hq => ?_, ?_, ?_⟩
  · obtain ⟨i, hi, e⟩ := hm q hq
    exact h.le i hi q e
  · rcases h.top with ⟨e, rfl⟩ | ⟨j, hj, q', hq', e⟩
    · refine .inl ⟨e, ?_⟩
      cases l with
      | nil => rfl
      | cons a t => have := ha 0 (by simp); cases this
    · exact .inr ⟨q', List.mem_of_getElem? hq', e⟩
  · rcases h.fin with e | ⟨j, hj, q', hq', e⟩
    · exact .inl e
    · exact .inr ⟨q', List.mem_of_getElem? hq', e⟩
set_option maxRecDepth 100000 in
set_option maxHeartbeats 8000000 in
theorem bounds_calls {ab om : Nat} {ms : List (Int × Tk)} {w : World} (h : AsI ab om ms w) (t : Int) (hk : ∀ q ∈ tk ms t, 0 ≤ q.1) :
    Calls Try.prog 46 #[.pointer (some ⟨ab, 0, none⟩), .int .i64 t] w fun e w' => ∃ f g, e = .returned (.tuple #[.int .i64 f, .int .i64 g]) ∧ Bnd (tk ms t) f g ∧ Below w.heap.size w w' := by
  have c0 := h.cell
  have ho := h.outer t
  have HK := Aside0.mk hk
  clear hk
  cases e : mget ms t with
  | none =>
    have e1 : tb ms t = none := by rw [tb, e]; rfl
    have e2 : tk ms t = [] := by rw [tk, e]
    rw [e1] at ho
    have hrg := run_range_nilMap (P := Try.prog) w 95 3 51 Try.underlying95
    have hnx : ∀ ty, (Instr.next (.pointer (some ⟨w.heap.size, 0, none⟩)) false ty).run Try.prog (w.alloc (.mapIter none 0 #[] 0)) = _ := fun ty => run_next_nilMap w ty 0 0 #[]
    clear h e
    go_enter Try.func46, Try.ntmps46
    go_wp2
    refine wp_loop_rounds 1 ?_
    rw [rounds_succ]
    go_wp2
    refine bodyPost_ret (results_2 rfl _ _ _) rfl ?_
    refine ⟨-1, -1, rfl, ?_, below_alloc (Below.refl _ _) _⟩
    rw [e2]
    exact (BndI.start []).all (fun i hi => by simp at hi)
  | some k =>
    have e1 : tb ms t = some k.b := by rw [tb, e]; rfl
    have e2 : tk ms t = k.l := by rw [tk, e]
    rw [e1] at ho
    obtain ⟨c, hrg, hit⟩ := (h.2.2.1 _ (mget_mem e)).range (P := Try.prog) Try.underlying95
    obtain ⟨W1, hW1⟩ : ∃ W1, w.alloc (.mapIter (some k.b) c #[] c) = W1 := ⟨_, rfl⟩
    have hb1 : Below w.heap.size w W1 := by rw [← hW1]; exact below_alloc (Below.refl _ _) _
    simp only at hrg hit
    rw [hW1] at hrg hit
    have hbk := (h.2.2.1 _ (mget_mem e)).lt
    rw [e2] at HK
    have HIT := Aside0.mk hit
    have HB1 := Aside0.mk hb1
    have HBK := Aside0.mk hbk
    rw [e2]
    clear h e hit hb1 hW1 hbk
    go_enter Try.func46, Try.ntmps46
    go_wp2
    go_loopg [4, 5] (lft (encL k.l) []) (fun kq v4 v5 W => ∃ (ix : List Nat) (f g : Int), v4 = .int .i64 f ∧ v5 = .int .i64 g ∧ kq = lft (encL k.l) ix ∧ Aside0 (BndI k.l ix f g ∧ Itr (Value.int .i64) W w.heap.size k.b (encL k.l) ix ∧ Below w.heap.size w W))
    case atStart => exact ⟨[], -1, -1, rfl, rfl, rfl, ⟨BndI.start _, HIT.out, HB1.out⟩⟩
    case round =>
      obtain ⟨ix, f, g, rfl, rfl, hkq, hA⟩ := hrel
      have HKQ := Aside0.mk hkq
      clear hkq
      rcases hA.out.2.1.next (P := Try.prog) 0 with ⟨hall, hrun⟩ | ⟨i, p, W2, hi, hp, hrun, hit2, hchg, hen⟩
      · have hnx : ∀ ty, (Instr.next (.pointer (some ⟨w.heap.size, 0, none⟩)) false ty).run Try.prog wr = _ := fun _ => hrun
        have HALL := Aside0.mk hall
        clear hall hrun
        go_wp2
        refine bodyPost_ret (results_2 rfl _ _ _) rfl ?_
        exact ⟨f, g, rfl, hA.out.1.all (fun i hi => HALL.out i (by simpa [encL] using hi)), hA.out.2.2⟩
      · obtain ⟨q, hq, rfl⟩ : ∃ q, k.l[i]? = some q ∧ p = (q.1, q.2.enc) := by
          rw [encL, List.getElem?_map] at hp
          cases e : k.l[i]? with
          | none => rw [e] at hp; cases hp
          | some q => rw [e] at hp; injection hp with hp; exact ⟨q, rfl, hp.symm⟩
        have hq0 := HK.out q (List.mem_of_getElem? hq)
        have hlt : i < (encL k.l).length := by simpa [encL] using (List.getElem?_eq_some_iff.1 hq).1
        have HQ := Aside0.mk (And.intro hq (And.intro hq0 (And.intro hi (And.intro hlt (And.intro hit2 hchg)))))
        have hnx : ∀ ty, (Instr.next (.pointer (some ⟨w.heap.size, 0, none⟩)) false ty).run Try.prog wr = .ok (.tuple #[.bool true, .int .i64 q.1, .agg #[.int .i64 q.2.v.f0, .int .i64 q.2.v.f1, .bool q.2.v.f2, .slice q.2.A q.2.v.f3.length q.2.c]]) W2 := fun _ => hrun
        have hent : (Instr.entry (.pointer (some ⟨w.heap.size, 0, none⟩))).run Try.prog W2 = .ok (.tuple #[.int .i64 q.1, .agg #[.int .i64 q.2.v.f0, .int .i64 q.2.v.f1, .bool q.2.v.f2, .slice q.2.A q.2.v.f3.length q.2.c]]) W2 := hen W2 rfl rfl
        clear hrun hen hp hq hq0 hi hlt hit2 hchg
        have hu51 := Try.underlying51
        have key : ∀ f' g', f' = (if q.2.v.f2 = true then q.1 else f) → g' = (if g < q.1 then q.1 else g) → ∀ cs, Aside0 (BndI k.l (i :: ix) f' g' ∧ Itr (Value.int .i64) (W2.alloc (.cells cs 51)) w.heap.size k.b (encL k.l) (i :: ix) ∧ Below w.heap.size w (W2.alloc (.cells cs 51))) := fun f' g' hf hg cs => by
          obtain ⟨h1, h2, h3, h4, h5, h6⟩ := HQ.out
          have hw2 : w.heap.size < W2.heap.size := h5.lt
          refine ⟨hA.out.1.step h1 h2 hf hg, h5.move (hb_alloc (Array.getElem?_eq_getElem _) |>.trans (Array.getElem?_eq_getElem h5.lt).symm) ?_, below_alloc (hA.out.2.2.trans (h6.to_below (fun k' hk' e => by omega) (by have := hA.out.2.1.lt; omega))) _⟩
          exact Below.heap_alloc _ _ _ (by have := HBK.out; omega)
        have HKEY := Aside0.mk key
        clear key
        by_cases hg : g < q.1
        · have b1 : decide (g < q.1) = true := decide_eq_true hg
          obtain ⟨fl, hfl⟩ : ∃ fl, q.2.v.f2 = fl := ⟨_, rfl⟩
          rw [hfl] at hnx hent
          cases fl with
          | true =>
            go_wp2
            go_roundg (lft (encL k.l) (i :: ix))
            case measure => rw [HKQ.out]; exact lft_cons _ _ _ HQ.out.2.2.2.1 HQ.out.2.2.1
            case rel => exact ⟨i :: ix, _, _, rfl, rfl, rfl, HKEY.out _ _ (by rw [if_pos hfl]) (by rw [if_pos hg]) _⟩
          | false =>
            go_wp2
            go_roundg (lft (encL k.l) (i :: ix))
            case measure => rw [HKQ.out]; exact lft_cons _ _ _ HQ.out.2.2.2.1 HQ.out.2.2.1
            case rel => exact ⟨i :: ix, _, _, rfl, rfl, rfl, HKEY.out _ _ (by rw [if_neg (by rw [hfl]; decide)]) (by rw [if_pos hg]) _⟩
        · have b1 : decide (g < q.1) = false := decide_eq_false hg
          obtain ⟨fl, hfl⟩ : ∃ fl, q.2.v.f2 = fl := ⟨_, rfl⟩
          rw [hfl] at hnx hent
          cases fl with
          | true =>
            go_wp2
            go_roundg (lft (encL k.l) (i :: ix))
            case measure => rw [HKQ.out]; exact lft_cons _ _ _ HQ.out.2.2.2.1 HQ.out.2.2.1
            case rel => exact ⟨i :: ix, _, _, rfl, rfl, rfl, HKEY.out _ _ (by rw [if_pos hfl]) (by rw [if_neg (by omega)]) _⟩
          | false =>
            go_wp2
            go_roundg (lft (encL k.l) (i :: ix))
            case measure => rw [HKQ.out]; exact lft_cons _ _ _ HQ.out.2.2.2.1 HQ.out.2.2.1
            case rel => exact ⟨i :: ix, _, _, rfl, rfl, rfl, HKEY.out _ _ (by rw [if_neg (by rw [hfl]; decide)]) (by rw [if_neg (by omega)]) _⟩
end Go.Proofs.Ytogpjenmfgpfiaa.QProgressAssembler
