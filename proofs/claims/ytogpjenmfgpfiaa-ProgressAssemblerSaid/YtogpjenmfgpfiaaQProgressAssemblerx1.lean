-- Written by gen.py (this repo's wip/), which runs the kit's print.py with more arms. Lean checks it.
import Derived.Test.YtogpjenmfgpfiaaQProgressAssemblerx0
namespace Go.Proofs.Ytogpjenmfgpfiaa.QProgressAssembler
open Go.RowKit Go.Proofs.YtogpjenmfgpfiaaW.PrintWords Go.Proofs.YtogpjenmfgpfiaaW.PrintLast Go.Proofs.YtogpjenmfgpfiaaW.PrintMore
attribute [local go_sem] max2_int min2_int max_two min_two max_three min_three max_four min_four   -- for this text's walks alone
set_option linter.unusedVariables false
set_option linter.unusedSimpArgs false

private theorem isEmpty_bne {α : Type} [BEq α] (l : List α) : (l != []) = !l.isEmpty := by cases l <;> rfl

/-! ### glossatorref3_Equal_int: function 23 -/
def glossatorref3_Equal_int.l0 : Nat → List Int → List Int → Int → Int → Option (Bool)
  | 0, _, _, _, _ => none
  | k + 1, x1, x12, x13, x14 => if x14 < x13 then (if 0 ≤ x14 then (if x14 < (x12.length : Int) then (if x14 < (x1.length : Int) then (if (rd x12 x14) = (rd x1 x14) then (glossatorref3_Equal_int.l0 k x1 x12 x13 (wrap64 (x14 + 1))) else (some false)) else (none)) else (none)) else (none)) else (some true)
def glossatorref3_Equal_int.f (k : Nat) (l0 : List Int) (l1 : List Int) : Option (Bool) := if (l0.length : Int) = (l1.length : Int) then (glossatorref3_Equal_int.l0 k l1 l0 (l0.length : Int) 0) else (some false)
theorem glossatorref3_Equal_int.mono_l : ∀ k, (∀ y0 y1 y2 y3, LeO (glossatorref3_Equal_int.l0 k y0 y1 y2 y3) (glossatorref3_Equal_int.l0 (k + 1) y0 y1 y2 y3))
  | 0 => fun _ _ _ _ r h => by simp [glossatorref3_Equal_int.l0] at h
  | k + 1 => by
    have ih0 := glossatorref3_Equal_int.mono_l k
    · intro y0 y1 y2 y3
      unfold glossatorref3_Equal_int.l0
      repeat' first
      | (with_reducible exact ih0 _ _ _ _)
      | (with_reducible exact LeO.refl _)
      | (with_reducible exact LeO.none _)
      | (with_reducible refine LeO.ite ?_ ?_)
      | (with_reducible refine LeO.bind ?_ (fun _ => ?_))
      | exact ih0 _ _ _ _
      | exact LeO.none _
      | refine LeO.ite ?_ ?_
      | refine LeO.bind ?_ (fun _ => ?_)
theorem glossatorref3_Equal_int.mono : ∀ a0 a1 k, LeO (glossatorref3_Equal_int.f k a0 a1) (glossatorref3_Equal_int.f (k + 1) a0 a1) := by
  intro a0 a1 k
  have ih0 := glossatorref3_Equal_int.mono_l k
  unfold glossatorref3_Equal_int.f
  repeat' first
      | (with_reducible exact ih0 _ _ _ _)
      | (with_reducible exact LeO.refl _)
      | (with_reducible exact LeO.none _)
      | (with_reducible refine LeO.ite ?_ ?_)
      | (with_reducible refine LeO.bind ?_ (fun _ => ?_))
      | exact ih0 _ _ _ _
      | exact LeO.none _
      | refine LeO.ite ?_ ?_
      | refine LeO.bind ?_ (fun _ => ?_)
set_option maxHeartbeats 8000000 in
set_option maxRecDepth 100000 in
theorem glossatorref3_Equal_int.calls (k : Nat) (A0 : Option Addr) (c0 : Nat) (l0 : List Int) (A1 : Option Addr) (c1 : Nat) (l1 : List Int) (r : Bool) (w : World) (hr0 : Kd.C (Kd.int .i64) w A0 l0.length l0) (hc0 : l0.length ≤ c0) (hr1 : Kd.C (Kd.int .i64) w A1 l1.length l1) (hc1 : l1.length ≤ c1) (h : glossatorref3_Equal_int.f k l0 l1 = some r) :
    Calls Try.prog 23 #[.slice A0 l0.length c0, .slice A1 l1.length c1] w fun e w' => e = .returned (.bool r) ∧ Drawn0 w w' := by
  have HR0 := Aside0.mk hr0
  have HC0 := Aside0.mk hc0
  clear hr0 hc0
  have HR1 := Aside0.mk hr1
  have HC1 := Aside0.mk hc1
  clear hr1 hc1
  have H : (if (l0.length : Int) = (l1.length : Int) then (glossatorref3_Equal_int.l0 k l1 l0 (l0.length : Int) 0) else (some false)) = some r := h
  clear h
  by_cases c3 : (l0.length : Int) = (l1.length : Int)
  · rw [if_pos c3] at H
    have c3b0 : ((l0.length : Int) == (l1.length : Int)) = true := beq_iff_eq.mpr c3
    have c3b1 : ((l0.length : Int) != (l1.length : Int)) = false := bne_eq_false_iff_eq.mpr c3
    have c3b2 : (l0.length == l1.length) = true := by first | simpa using c3 | (simp at c3 ⊢; omega)
    clear c3
    have H' := Aside0.mk H
    clear H
    go_enter Try.func23, Try.ntmps23
    go_wp2
    go_loopg [14] k (fun kq v14 w' => ∃ (x14_1 : Int), v14 = .int .i64 x14_1 ∧ Aside0 (glossatorref3_Equal_int.l0 kq l1 l0 (l0.length : Int) x14_1 = some r) ∧ Aside0 (kq ≤ k) ∧ Drawn0 w w')
    case atStart => exact ⟨(0), (by first | rfl | (simp; done) | (simp [*]; done) | (simp [isEmpty_bne]; done)), H', ⟨Nat.le_refl _⟩, by repeat (first | exact Drawn0.refl _ | apply Drawn0.step)⟩
    case round =>
      clear H'
      try clear c1
      try clear c2
      try clear p2
      try clear c3
      try clear c3b0
      try clear c3b1
      try clear c3b2
      obtain ⟨x14_1, rfl, HA, HK1, ⟨m1, rfl⟩⟩ := hrel
      cases gk with
      | zero => exact absurd HA.out (by simp [glossatorref3_Equal_int.l0])
      | succ k1 =>
        have H := HA.out
        clear HA
        simp only [glossatorref3_Equal_int.l0] at H
        by_cases c4 : x14_1 < (l0.length : Int)
        · rw [if_pos c4] at H
          have c4b0 : decide (x14_1 < (l0.length : Int)) = true := decide_eq_true c4
          clear c4
          by_cases c5 : 0 ≤ x14_1
          · rw [if_pos c5] at H
            have c5b0 : decide (0 ≤ x14_1) = true := decide_eq_true c5
            clear c5
            by_cases c6 : x14_1 < (l0.length : Int)
            · rw [if_pos c6] at H
              have c6b0 : decide (x14_1 < (l0.length : Int)) = true := decide_eq_true c6
              clear c6
              by_cases c7 : x14_1 < (l1.length : Int)
              · rw [if_pos c7] at H
                have c7b0 : decide (x14_1 < (l1.length : Int)) = true := decide_eq_true c7
                clear c7
                by_cases c8 : (rd l0 x14_1) = (rd l1 x14_1)
                · rw [if_pos c8] at H
                  have c8b0 : ((rd l0 x14_1) == (rd l1 x14_1)) = true := beq_iff_eq.mpr c8
                  have c8b1 : ((rd l0 x14_1) != (rd l1 x14_1)) = false := bne_eq_false_iff_eq.mpr c8
                  clear c8
                  have H' := Aside0.mk H
                  clear H
                  have p101 : 0 ≤ (x14_1 : Int) := of_decide_eq_true (by first | (with_reducible assumption) | assumption)
                  have q101 : x14_1 < (l0.length : Int) := of_decide_eq_true (by first | (with_reducible assumption) | assumption)
                  obtain ⟨ad101, e101, hx101_0⟩ := Kd.at_int HR0.out x14_1 p101 q101
                  cases e101
                  replace p101 := eq_true p101
                  replace q101 := eq_true q101
                  have p102 : 0 ≤ (x14_1 : Int) := of_decide_eq_true (by first | (with_reducible assumption) | assumption)
                  have q102 : x14_1 < (l1.length : Int) := of_decide_eq_true (by first | (with_reducible assumption) | assumption)
                  obtain ⟨ad102, e102, hx102_0⟩ := Kd.at_int HR1.out x14_1 p102 q102
                  cases e102
                  replace p102 := eq_true p102
                  replace q102 := eq_true q102
                  go_wp2
                  go_roundg k1
                  case measure => have := HK1.out; omega
                  case rel => exact ⟨(wrap64 (x14_1 + 1)), (by first | rfl | (simp; done) | (simp [*]; done) | (simp [isEmpty_bne]; done)), H', ⟨by have := HK1.out; omega⟩, by repeat (first | exact Drawn0.refl _ | apply Drawn0.step)⟩
                · rw [if_neg c8] at H
                  have c8b0 : ((rd l0 x14_1) == (rd l1 x14_1)) = false := beq_eq_false_iff_ne.mpr c8
                  have c8b1 : ((rd l0 x14_1) != (rd l1 x14_1)) = true := bne_iff_ne.mpr c8
                  obtain rfl := Option.some.inj H
                  have p101 : 0 ≤ (x14_1 : Int) := of_decide_eq_true (by first | (with_reducible assumption) | assumption)
                  have q101 : x14_1 < (l0.length : Int) := of_decide_eq_true (by first | (with_reducible assumption) | assumption)
                  obtain ⟨ad101, e101, hx101_0⟩ := Kd.at_int HR0.out x14_1 p101 q101
                  cases e101
                  replace p101 := eq_true p101
                  replace q101 := eq_true q101
                  have p102 : 0 ≤ (x14_1 : Int) := of_decide_eq_true (by first | (with_reducible assumption) | assumption)
                  have q102 : x14_1 < (l1.length : Int) := of_decide_eq_true (by first | (with_reducible assumption) | assumption)
                  obtain ⟨ad102, e102, hx102_0⟩ := Kd.at_int HR1.out x14_1 p102 q102
                  cases e102
                  replace p102 := eq_true p102
                  replace q102 := eq_true q102
                  go_wp2
                  go_ret
                  exact ⟨by first | rfl | (simp; done) | (simp [*]; done), by repeat (first | exact Drawn0.refl _ | apply Drawn0.step)⟩
              · rw [if_neg c7] at H
                exact absurd H (by simp)
            · rw [if_neg c6] at H
              exact absurd H (by simp)
          · rw [if_neg c5] at H
            exact absurd H (by simp)
        · rw [if_neg c4] at H
          have c4b0 : decide (x14_1 < (l0.length : Int)) = false := decide_eq_false c4
          clear c4
          obtain rfl := Option.some.inj H
          go_wp2
          go_ret
          exact ⟨by first | rfl | (simp; done) | (simp [*]; done), by repeat (first | exact Drawn0.refl _ | apply Drawn0.step)⟩
  · rw [if_neg c3] at H
    have c3b0 : ((l0.length : Int) == (l1.length : Int)) = false := beq_eq_false_iff_ne.mpr c3
    have c3b1 : ((l0.length : Int) != (l1.length : Int)) = true := bne_iff_ne.mpr c3
    have c3b2 : (l0.length == l1.length) = false := by first | simpa using c3 | (simp at c3 ⊢; omega)
    obtain rfl := Option.some.inj H
    go_enter Try.func23, Try.ntmps23
    go_wp2
    go_ret
    exact ⟨by first | rfl | (simp; done) | (simp [*]; done), by repeat (first | exact Drawn0.refl _ | apply Drawn0.step)⟩


/-! ### slices_Clone_int_int: function 47 (by hand: a copy, whether nil or not) -/
def slices_Clone_int_int.f (l0 : List Int) : Option (List Int) := if ([] : List Int).length + l0.length < 17592186044416 then (some (([] : List Int) ++ l0)) else (none)
set_option maxHeartbeats 8000000 in
set_option maxRecDepth 100000 in
theorem slices_Clone_int_int.calls (A0 : Option Addr) (c0 : Nat) (l0 : List Int) (r : List Int) (w : World) (hr0 : Kd.C (Kd.int .i64) w A0 l0.length l0) (hc0 : l0.length ≤ c0) (h : slices_Clone_int_int.f l0 = some r) :
    Calls Try.prog 47 #[.slice A0 l0.length c0] w fun e w' => ∃ v0_ : Value, e = .returned (v0_) ∧ Kd.R (Kd.int .i64) 3 w' w.heap.size (fun _ => True) v0_ r ∧ Below w.heap.size w w' := by
  have q22 : ∀ (w : World) (a : Option Addr) (n c n' c' : Nat), (binOp .eql 24 (.slice a n c) (.slice none n' c')).run Try.prog w = .ok (.bool a.isNone) w := fun w a n c n' c' => Lib.run_eql_slice_nil w _ _ a n c n' c' Try.underlying24
  have u22 : ∀ w, Sem.run Try.prog (underlying 24) w = .ok (TypeDesc.slice 3) w := run_underlying Try.underlying24
  have HR0 := Aside0.mk hr0
  have HC0 := Aside0.mk hc0
  have HB := Aside0.mk (Below.refl w.heap.size w)
  unfold slices_Clone_int_int.f at h
  by_cases c2 : ([] : List Int).length + l0.length < 17592186044416
  · rw [if_pos c2] at h
    obtain rfl := Option.some.inj h
    cases A0 with
    | none =>
      have e0 : l0 = [] := by
        cases l0 with
        | nil => rfl
        | cons x t => exact absurd hr0 (by intro hC; obtain ⟨ad, c, e, _⟩ := Kd.C_get hC x 0 (by omega) (by simp); cases e)
      subst e0
      clear hr0 hc0 h c2
      go_enter Try.func47, Try.ntmps47
      go_wp2
      go_ret
      exact ⟨_, rfl, Kd.R_nil _ _ _ _ _, HB.out⟩
    | some ad =>
      clear hr0 hc0 h
      have LMc2 := Aside0.mk c2
      clear c2
      go_enter Try.func47, Try.ntmps47
      go_wp2_with (first | ((with_reducible refine gate_builtin (b := .append) (xs := #[.tmp 5, .tmp 6]) rfl ?_); at_builtin; refine Kd.R_append_rows (Kd.int .i64) (w0 := w) w.heap.size rfl (.tmp 5) (.tmp 6) 24 3 (.int .i64 0) 8 rfl Try.underlying24 info3 rfl (by decide) (by omega) (.slice (some ⟨w.heap.size, 0, none⟩) 0 0) ([] : List Int) l0 _ _ _ (fun _ => True) (fun _ => False) rfl rfl ?aO ?aR (fun _ _ h => h) (fun _ h => h.elim) ?aF ?aB ?aS ?aL ?_; (case aO => exact ⟨fun _ _ => trivial, [], World.ownsRow_made w #[] 0 (Nat.le_refl _) (Nat.zero_le _) rfl, ⟨by simp, fun j p hj => by simp at hj⟩⟩); (case aR => exact Kd.C_alloc HR0.out _); (case aB => exact below_alloc HB.out _); (case aF => exact (fun _ _ => trivial)); (case aS => exact below_size (below_alloc HB.out _)); (case aL => have := LMc2.out; omega); intro v129 w3 ho hb hg hat))
      go_ret
      exact ⟨_, rfl, ho, hb⟩
  · rw [if_neg c2] at h
    cases h

-- NOT PRINTED: function 67 (slices_Chunk_int_int)

section
open Go.Shelf Go.Proofs.Ytogpjenmfgpfiaa.Hand
attribute [local go_sem] Oper.semAt_some
def splitAt (a0 : Int) (l1 : List Int) (i : Nat) (p : Nat × Nat) : S51 := ⟨a0, (i : Int), false, (l1.drop p.1).take p.2⟩
def splitN (a0 : Int) (l1 : List Int) (ps : List (Nat × Nat)) : List S51 := ps.zipIdx.map (fun q => splitAt a0 l1 q.2 q.1)
theorem splitN_snoc (a0 : Int) (l1 : List Int) (ps : List (Nat × Nat)) (p : Nat × Nat) : splitN a0 l1 (ps ++ [p]) = splitN a0 l1 ps ++ [splitAt a0 l1 ps.length p] := by
  unfold splitN
  rw [List.zipIdx_append]
  simp
theorem splitN_len (a0 : Int) (l1 : List Int) (ps : List (Nat × Nat)) : (splitN a0 l1 ps).length = ps.length := by simp [splitN]
def setLast (xs : List S51) : List S51 := xs.set (xs.length - 1) { (xs.getD (xs.length - 1) z51) with f2 := true }
def progress_Split.f (a0 : Int) (l1 : List Int) (a2 : Int) : Option (List S51 × Int) :=
  if a0 < 0 ∨ a2 < 1 then some ([], 1) else if (l1.length : Int) > 1000 then some ([], 2) else if (l1.length : Int) = 0 then some ([⟨a0, 0, true, []⟩], 0)
  else if a2 ≤ 9223372036854775807 then some (setLast (splitN a0 l1 (cuts a2.toNat l1.length 1001 0)), 0) else none
theorem results_2 {fn : Func} {s t : Tmp} (h : fn.results = #[.tmp s, .tmp t]) (tmps : Array Value) (P : Program) (w : World) :
    (results fn tmps).run P w = .ok (.tuple #[tmps.getD s undef, tmps.getD t undef]) w := by
  simp [results, h, Sem.run_pure]
theorem C_cut {w : World} {ad : Addr} {xs : List Int} {lo k : Nat} (h : Kd.C (Kd.int .i64) w (some ad) xs.length xs) (hk : lo + k ≤ xs.length) (h0 : 0 < k) :
    Kd.C (Kd.int .i64) w (some (ad.add lo)) ((xs.drop lo).take k).length ((xs.drop lo).take k) := by
  obtain ⟨e1, e2, e3⟩ := h
  obtain ⟨ad', ha, hc⟩ := e3 (by omega)
  injection ha with ha
  subst ha
  have hl : ((xs.drop lo).take k).length = k := by simp; omega
  refine ⟨rfl, by omega, fun _ => ⟨_, rfl, fun j p hj => ?_⟩⟩
  have hj2 : xs[lo + j]? = some p := by
    have : j < k := by
      have := (List.getElem?_eq_some_iff.1 hj).1
      omega
    rw [List.getElem?_take_of_lt this, List.getElem?_drop] at hj
    exact hj
  obtain ⟨c, hcl, hR, hcc⟩ := hc (lo + j) p hj2
  refine ⟨c, hcl, hR, fun i u hu => ?_⟩
  have := hcc i u hu
  have e : lo + (j * (Kd.int .i64).sz + i) = (lo + j) * (Kd.int .i64).sz + i := by rw [Nat.add_mul]; show lo + (j * 1 + i) = lo * 1 + j * 1 + i; omega
  rw [Addr.add_add, e]
  exact this
theorem al_old {W : World} {o o' : Obj} {k : Nat} (h : W.heap[k]? = some o) : (W.alloc o').heap[k]? = some o := (Below.heap_alloc W o' k (Array.getElem?_eq_some_iff.1 h).1).trans h
theorem al_new {W : World} {o : Obj} {k : Nat} (h : W.heap.size = k) : (W.alloc o).heap[k]? = some o := by subst h; exact World.alloc_heap_new W o
/-- Between two rounds. -/
def SplitI (w : World) (a0 : Int) (l1 : List Int) (ad : Addr) (c1 s : Nat) (pre : List (Cut l1.length)) (W : World) : Prop :=
  (∃ v, W.heap[w.heap.size + 1]? = some (.cells #[v] 47 (0, 0)) ∧ Kd.S k51 51 W (w.heap.size + 4) (fun _ => True) v (splitN a0 l1 (pre.map Subtype.val))) ∧ W.heap[w.heap.size]? = some (.cells #[.int .i64 a0] 3 (0, 0)) ∧
  W.heap[w.heap.size + 2]? = some (.cells #[.slice (some ad) l1.length c1] 24 (0, 0)) ∧ W.heap[w.heap.size + 3]? = some (.cells #[.int .i64 (s : Int)] 3 (0, 0)) ∧ Below w.heap.size w W
theorem splitI_own (w : World) (a0 : Int) (l1 : List Int) (ad : Addr) (c1 s B : Nat) (hB : w.heap.size + 4 ≤ B) : OwnFrom B (SplitI w a0 l1 ad c1 s) := by
  rintro pre W W' row ⟨⟨v, h1, h2⟩, h3, h4, h5, h6⟩ hg hr
  have keep : ∀ (b : Nat) (o : Obj), b < w.heap.size + 4 → W.heap[b]? = some o → W'.heap[b]? = some o := by
    intro b o hb ho
    rw [hg.block b (Array.getElem?_eq_some_iff.1 ho).1 (fun e => by have := (hr b e.symm).1; omega)]
    exact ho
  refine ⟨⟨v, keep _ _ (by omega) h1, ?_⟩, keep _ _ (by omega) h3, keep _ _ (by omega) h4, keep _ _ (by omega) h5, h6.grown hg h6.size (fun k e => by have := (hr k e).1; omega)⟩
  refine Kd.S_mono (Kd.S_move (Kd.S_bound h2) (fun k hk => ?_)) (fun _ _ => trivial)
  obtain ⟨_, _, hlt, _, _, cells, hc⟩ := hk
  refine hg.block k hlt (fun e => ?_)
  obtain ⟨_, o, ho, hcs⟩ := hr k e.symm
  rw [hc] at ho
  injection ho with ho
  subst ho
  cases hcs
set_option maxHeartbeats 8000000 in
set_option maxRecDepth 100000 in
theorem progress_Split.calls (a0 : Int) (A1 : Option Addr) (c1 : Nat) (l1 : List Int) (a2 : Int) (r1 : List S51) (r2 : Int) (w : World) (hr1 : Kd.C (Kd.int .i64) w A1 l1.length l1) (hc1 : l1.length ≤ c1) (h : progress_Split.f a0 l1 a2 = some (r1, r2)) :
    Calls Try.prog 43 #[.int .i64 a0, .slice A1 l1.length c1, .int .i64 a2] w fun e w' => ∃ v0_ : Value, e = .returned (.tuple #[v0_, .int .i64 r2]) ∧ Kd.S k51 51 w' w.heap.size (fun _ => True) v0_ r1 ∧ Below w.heap.size w w' := by
  unfold progress_Split.f at h
  have HR1 := Aside0.mk hr1
  clear hr1
  refine (callsIn_wide (n := 9)).1 (callsIn_of_wp_marks Try.func43 rfl trivial ?_ rfl)
  simp only [Try.ntmps43, List.size_toArray, List.length_cons, List.length_nil, Nat.reduceAdd, Nat.reduceSub, Array.replicate_succ, Array.replicate_zero, List.push_toArray, List.append_toArray, List.nil_append, List.cons_append]
  have nilS : ∀ (W : World) (ok : Nat → Prop), Kd.S k51 51 W w.heap.size ok (.slice none 0 0) [] := fun W ok => Kd.S_nil _ _ _ _ _
  by_cases e1 : a0 < 0
  · rw [if_pos (.inl e1)] at h
    injection h with h
    injection h with h1 h2
    subst h1 h2
    gi_wp2
    exact ⟨_, results_2 rfl _ _ _, _, rfl, nilS _ _, (Below.refl _ w).alloc (Nat.le_refl _) _⟩
  by_cases e2 : a2 < 1
  · rw [if_pos (.inr e2)] at h
    injection h with h
    injection h with h1 h2
    subst h1 h2
    gi_wp2
    exact ⟨_, results_2 rfl _ _ _, _, rfl, nilS _ _, (Below.refl _ w).alloc (Nat.le_refl _) _⟩
  rw [if_neg (by omega)] at h
  by_cases e3 : (l1.length : Int) > 1000
  · rw [if_pos e3] at h
    injection h with h
    injection h with h1 h2
    subst h1 h2
    gi_wp2
    exact ⟨_, results_2 rfl _ _ _, _, rfl, nilS _ _, (Below.refl _ w).alloc (Nat.le_refl _) _⟩
  rw [if_neg e3] at h
  by_cases e4 : (l1.length : Int) = 0
  · rw [if_pos e4] at h
    injection h with h
    injection h with h1 h2
    subst h1 h2
    gi_wp2
    refine ⟨_, results_2 rfl _ _ _, _, rfl, ?_, below_alloc (below_alloc (Below.refl _ w) _) _⟩
    refine ⟨fun _ => 0, fun _ _ => trivial, [.int .i64 a0, .int .i64 0, .bool true, .slice none 0 0], ?_, ⟨by simp [Kd.tag, k51, Kd.iso, Kd.pair]; rfl, fun j p hj => ?_⟩⟩
    · have h2 := World.ownsRow_lit (base := w.heap.size) (e := 51) (size := 4) (w.alloc (.cells #[.int .i64 a0] 3)) #[.int .i64 a0, .int .i64 0, .bool true, .slice none 0 0] 1 (by simp) (by simp [maxLen]) (by simp)
      have h3 : (Kd.tag (fun _ => 0) k51).sz = 4 := rfl
      rw [h3]
      simpa using h2
    · match j, hj with
      | 0, hj =>
        injection hj with hj
        subst hj
        exact k51_mkM _ _ _ ⟨a0, 0, true, []⟩ (Kd.R_nil _ _ _ _ _)
      | j + 1, hj => simp at hj
  rw [if_neg e4] at h
  by_cases e5 : a2 ≤ 9223372036854775807
  · rw [if_pos e5] at h
    injection h with h
    injection h with h1 h2
    subst h1 h2
    obtain ⟨s, rfl⟩ : ∃ s : Nat, a2 = (s : Int) := ⟨a2.toNat, by omega⟩
    gi_wp2_with (refine ⟨trivial, ?_⟩; gi_at_call 67; refine (chunk_in Fence.wide (9 - 1) trivial rfl A1 l1.length c1 (s : Int) (by omega) _).mono ?_; rintro e w' ⟨rfl, rfl⟩)
    obtain ⟨ad, hA⟩ : ∃ ad, A1 = some ad := by
      obtain ⟨ad, c, e, _⟩ := Kd.C_get HR1.out 0 0 (by omega) (by omega)
      exact ⟨ad, e⟩
    subst hA
    obtain ⟨W1, hW1⟩ : ∃ W1, (((w.alloc (.cells #[.int .i64 a0] 3)).alloc (.cells #[.slice none 0 0] 47)).alloc (.cells #[.slice (some ad) l1.length c1] 24)).alloc (.cells #[.int .i64 (s : Int)] 3) = W1 := ⟨_, rfl⟩
    have hz : W1.heap.size = w.heap.size + 4 := by rw [← hW1]; simp
    have hb1 : W1.heap[w.heap.size + 2]? = some (.cells #[.slice (some ad) l1.length c1] 24 (0, 0)) := by rw [← hW1]; exact (al_old (al_new (by simp)))
    have hb2 : W1.heap[w.heap.size + 3]? = some (.cells #[.int .i64 (s : Int)] 3 (0, 0)) := by rw [← hW1]; exact (al_new (by simp))
    have hb3 : W1.heap[w.heap.size]? = some (.cells #[.int .i64 a0] 3 (0, 0)) := by rw [← hW1]; exact (al_old (al_old (al_old (al_new rfl))))
    have hb8 : W1.heap[w.heap.size + 1]? = some (.cells #[.slice none 0 0] 47 (0, 0)) := by rw [← hW1]; exact (al_old (al_old (al_new (by simp))))
    have hbel : Below w.heap.size w W1 := by rw [← hW1]; repeat (first | exact Below.refl _ _ | apply below_alloc)
    rw [hW1]
    refine wpIn_rangeFunc_ownF rfl (by omega) (gf := 78) (lb := #[.pointer (some ⟨w.heap.size + 2, 0, none⟩), .pointer (some ⟨w.heap.size + 3, 0, none⟩)]) rfl trivial (enters_of Try.func78 (by kernel_rfl) rfl)
      (chunk_stops Fence.wide (9 - 1) trivial rfl (by omega) (w.heap.size + 2) (w.heap.size + 3) ad l1.length c1 s (by omega) hc1 (by omega) (by omega) W1 hb1 hb2) KpB.trans ?kb (Below.refl _ _) (fun _ => rfl)
      (SplitI w a0 l1 ad c1 s) (fun _ _ _ => False) (splitI_own w a0 l1 ad c1 s _ (by omega)) (fun _ _ _ _ _ hs _ _ => hs) ⟨⟨_, hb8, Kd.S_nil _ _ _ _ _⟩, hb3, hb1, hb2, hbel⟩
      (fun x => { tmps := #[.int .i64 a0, .slice (some ad) l1.length c1, .int .i64 (s : Int), .pointer (some ⟨w.heap.size, 0, none⟩), undef, undef, .slice none 0 0, .int .i64 0, .pointer (some ⟨w.heap.size + 1, 0, none⟩), .slice (some (ad.add x.1.1)) x.1.2 x.1.2, .bool false, .int .i64 a0, .bool false, .bool false, .int .i64 (s : Int), .bool false, .bool false, .bool false, .slice (some ad) l1.length c1, .int .i64 (l1.length : Int), .bool false, .bool false, .slice (some ad) l1.length c1, .int .i64 (l1.length : Int), .bool false, undef, undef, undef, .slice (some ad) l1.length c1, .int .i64 (s : Int), .func (.func 78) #[] #[.pointer (some ⟨w.heap.size + 1 + 1, 0, none⟩), .pointer (some ⟨w.heap.size + 1 + 1 + 1, 0, none⟩)], .slice (some (ad.add x.1.1)) x.1.2 x.1.2, undef, undef, undef, undef, undef, undef, undef, undef, undef, undef, undef, undef, undef, undef, undef, undef], defers := [] }) ?assign ?body ?done ?stop
    case kb =>
      intro W l o o' hl ho _ _
      have n2 : w.heap.size + 2 ≠ l := by omega
      have n3 : w.heap.size + 3 ≠ l := by omega
      exact ⟨World.putObj_heap_other n2, World.putObj_heap_other n3⟩
    case assign =>
      intro l x W K hK
      gi_wp2
      exact hK
    case body =>
      rintro l pre x W ⟨⟨v, h8, hS⟩, h3, h1, h2, hB⟩ hlen
      have c8 := box_cell h8
      have c3 := box_cell h3
      obtain ⟨V, cv, hv⟩ := Kd.S_slice hS
      subst hv
      have hcut : Kd.C (Kd.int .i64) W (some (ad.add x.1.1)) ((l1.drop x.1.1).take x.1.2).length ((l1.drop x.1.1).take x.1.2) := C_cut (Kd.C_below HR1.out hB) x.2.1 x.2.2
      have hcl : ((l1.drop x.1.1).take x.1.2).length = x.1.2 := by have := x.2.1; simp; omega
      have hclone : slices_Clone_int_int.f ((l1.drop x.1.1).take x.1.2) = some ((l1.drop x.1.1).take x.1.2) := by
        unfold slices_Clone_int_int.f
        rw [if_pos (by rw [hcl]; have := x.2.1; simp; omega)]
        rfl
      have hmx : Try.prog.follows .mixedOrders = true := by kernel_rfl
      have hcall : ∀ W0, Below w.heap.size w W0 → CallsIn (Fence.wide.inRound l) 6 Try.prog 47 #[.slice (some (ad.add x.1.1)) x.1.2 x.1.2] W0 fun e w' => ∃ v0_ : Value, e = .returned (v0_) ∧ Kd.R (Kd.int .i64) 3 w' W0.heap.size (fun _ => True) v0_ ((l1.drop x.1.1).take x.1.2) ∧ Below W0.heap.size W0 w' := by
        intro W0 hB0
        have := CallsIn.inRound l (callsIn_wide.2 (slices_Clone_int_int.calls (some (ad.add x.1.1)) x.1.2 ((l1.drop x.1.1).take x.1.2) _ W0 (C_cut (Kd.C_below HR1.out hB0) x.2.1 x.2.2) (by omega) hclone) : CallsIn Fence.wide 6 _ _ _ _ _)
        rw [hcl] at this
        exact this
      have hBd : Below w.heap.size w W.drew := below_drew1 hB
      gi_wp2
      refine region_round hmx (fun j o hj c e => ?_) (by rintro ⟨a', w', h'⟩; exact h') (wpAny_of_last (S := fun W' => W'.cell? ⟨w.heap.size + 1, 0, none⟩ = some (.slice V (splitN a0 l1 (pre.map Subtype.val)).length cv) ∧ W'.cell? ⟨w.heap.size, 0, none⟩ = some (.int .i64 a0)) (ds := [9]) _ _ _ _ ?_)
      · have hm := Array.mem_of_getElem? hj
        simp at hm
        rcases hm with rfl | rfl | rfl | rfl | rfl | rfl | rfl | rfl | rfl | rfl <;> cases e
      have hHeld : W.drew.cell? ⟨w.heap.size + 1, 0, none⟩ = some (.slice V (splitN a0 l1 (pre.map Subtype.val)).length cv) ∧ W.drew.cell? ⟨w.heap.size, 0, none⟩ = some (.int .i64 a0) := ⟨c8, c3⟩
      refine pure_ (i := 4) (N := some 36) (v := ?_) (a' := ?_) #[false, false, false, false, true, false, false, false, false, false] rfl rfl (by kernel_rfl) (fun _ _ _ h => h) (Or.inl ⟨by rfl, ?_⟩) ?_ ?_
      rotate_left
      · intro w'
        go_simp
        with_reducible rfl
      rotate_left
      · simp only [Act.put, List.setIfInBounds_toArray, List.set_cons_zero, List.set_cons_succ, i64_w, i32_w]
        rfl
      refine take_ (i := 0) (N := some 32) (v := ?_) (a' := ?_) #[true, false, false, false, true, false, false, false, false, false] rfl rfl (by kernel_rfl) (fun _ _ _ h => h) (Or.inl ⟨by rfl, ?_⟩) hHeld ?_ ?_
      rotate_left
      · rintro w' ⟨s0, s1⟩
        go_simp
        with_reducible rfl
      rotate_left
      · simp only [Act.put, List.setIfInBounds_toArray, List.set_cons_zero, List.set_cons_succ, i64_w, i32_w]
        rfl
      refine take_ (i := 1) (N := some 33) (v := ?_) (a' := ?_) #[true, true, false, false, true, false, false, false, false, false] rfl rfl (by kernel_rfl) (fun _ _ _ h => h) (Or.inl ⟨by rfl, ?_⟩) hHeld ?_ ?_
      rotate_left
      · rintro w' ⟨s0, s1⟩
        go_simp
        with_reducible rfl
      rotate_left
      · simp only [Act.put, List.setIfInBounds_toArray, List.set_cons_zero, List.set_cons_succ, i64_w, i32_w]
        rfl
      refine take_ (i := 2) (N := some 34) (v := ?_) (a' := ?_) #[true, true, true, false, true, false, false, false, false, false] rfl rfl (by kernel_rfl) (fun _ _ _ h => h) (Or.inl ⟨by rfl, ?_⟩) hHeld ?_ ?_
      rotate_left
      · rintro w' ⟨s0, s1⟩
        go_simp
        with_reducible rfl
      rotate_left
      · simp only [Act.put, List.setIfInBounds_toArray, List.set_cons_zero, List.set_cons_succ, i64_w, i32_w]
        rfl
      refine pure_ (i := 3) (N := some 35) (v := ?_) (a' := ?_) #[true, true, true, true, true, false, false, false, false, false] rfl rfl (by kernel_rfl) (fun _ _ _ h => h) (Or.inl ⟨by rfl, ?_⟩) ?_ ?_
      rotate_left
      · intro w'
        go_simp
        with_reducible rfl
      rotate_left
      · simp only [Act.put, List.setIfInBounds_toArray, List.set_cons_zero, List.set_cons_succ, i64_w, i32_w]
        rfl
      have hcallP : Calls Try.prog 47 #[.slice (some (ad.add x.1.1)) x.1.2 x.1.2] W.drew fun e w' => ∃ v0_ : Value, e = .returned (v0_) ∧ Kd.R (Kd.int .i64) 3 w' W.drew.heap.size (fun _ => True) v0_ ((l1.drop x.1.1).take x.1.2) ∧ Below W.drew.heap.size W.drew w' := by
        have := slices_Clone_int_int.calls (some (ad.add x.1.1)) x.1.2 ((l1.drop x.1.1).take x.1.2) _ W.drew (C_cut (Kd.C_below HR1.out hBd) x.2.1 x.2.2) (by omega) hclone
        rw [hcl] at this
        exact this
      refine one_ (i := 5) (N := some 37) #[true, true, true, true, true, true, false, false, false, false] rfl rfl (by kernel_rfl) (by decide) (fun K hK => ?_)
      refine goes_ Try.func47 (by kernel_rfl) rfl #[.slice (some (ad.add x.1.1)) x.1.2 x.1.2] (by rfl) rfl rfl (by (try simp only [List.map_toArray, List.map_cons, List.map_nil]); first | done | rfl) ?_
      refine hcallP.mono ?_
      rintro e w' ⟨u, rfl, hu, hbu⟩
      obtain ⟨Uo, cu, eu⟩ := Kd.R_slice hu
      rw [hcl] at eu
      subst eu
      have HS0_ := (hbu.cell (World.block_lt_of_cell? _ _ (hHeld.1))).trans (hHeld.1)
      have HS1_ := (hbu.cell (World.block_lt_of_cell? _ _ (hHeld.2))).trans (hHeld.2)
      refine ⟨_, rfl, ?_⟩
      refine hK.out _ _ ⟨HS0_, HS1_⟩ (fun hHeld => ?_)
      clear hK K
      refine norm_ (a' := ?_) ?_ ?_
      rotate_left
      · show Act.put _ (some 37) _ = _
        simp only [Act.put, List.setIfInBounds_toArray, List.set_cons_zero, List.set_cons_succ, i64_w, i32_w]
        rfl
      refine pure_ (i := 6) (N := some 38) (v := ?_) (a' := ?_) #[true, true, true, true, true, true, true, false, false, false] rfl rfl (by kernel_rfl) (fun _ _ _ h => h) (Or.inl ⟨by rfl, ?_⟩) ?_ ?_
      rotate_left
      · intro w'
        go_simp
        with_reducible rfl
      rotate_left
      · simp only [Act.put, List.setIfInBounds_toArray, List.set_cons_zero, List.set_cons_succ, i64_w, i32_w]
        rfl
      refine one_ (i := 7) (N := some 39) #[true, true, true, true, true, true, true, true, false, false] rfl rfl (by kernel_rfl) (by decide) (fun K hK => ?_)
      refine value_ (v := .slice (some ⟨w'.heap.size, 0, none⟩) 1 1) (w1 := w'.alloc (.cells #[.int .i64 a0, .int .i64 ((splitN a0 l1 (pre.map Subtype.val)).length : Int), .bool false, .slice Uo x.1.2 cu] 51)) (by rfl) rfl ?_ ?_
      · go_simp
      have hal : Below w'.heap.size w' (w'.alloc (.cells #[.int .i64 a0, .int .i64 ((splitN a0 l1 (pre.map Subtype.val)).length : Int), .bool false, .slice Uo x.1.2 cu] 51)) := below_alloc (Below.refl _ _) _
      refine hK.out _ _ ⟨(hal.cell (World.block_lt_of_cell? _ _ hHeld.1)).trans hHeld.1, (hal.cell (World.block_lt_of_cell? _ _ hHeld.2)).trans hHeld.2⟩ (fun hHeld2 => ?_)
      clear hK K
      refine norm_ (a' := ?_) ?_ ?_
      rotate_left
      · show Act.put _ (some 39) _ = _
        simp only [Act.put, List.setIfInBounds_toArray, List.set_cons_zero, List.set_cons_succ, i64_w, i32_w]
        rfl
      have hz4 : w.heap.size + 4 ≤ W.heap.size := (Array.getElem?_eq_some_iff.1 h2).1
      have hbase : w.heap.size + 4 ≤ w'.heap.size := Nat.le_trans hz4 hbu.size
      have hSw : Kd.S k51 51 w' (w.heap.size + 4) (fun k => w.heap.size + 4 ≤ k ∧ k < W.heap.size) (.slice V (splitN a0 l1 (pre.map Subtype.val)).length cv) (splitN a0 l1 (pre.map Subtype.val)) :=
        Kd.S_mono (Kd.S_step (Kd.S_bound hS) (fun k _ hlt => hbu.block k hlt)) (fun k hk => ⟨hk.2.1, hk.2.2.1⟩)
      refine one_ (i := 8) (N := some 40) #[true, true, true, true, true, true, true, true, true, false] rfl rfl (by kernel_rfl) (by decide) (fun K hK => ?_)
      refine Kd.S_append_step k51 (w0 := w') (w.heap.size + 4) (by rfl) (.tmp 32) (.tmp 39) 47 51 (.agg #[(.int .i64 0), (.int .i64 0), (.bool false), (.slice none 0 0)]) 48 rfl Try.underlying47 info51 rfl (by decide) (by omega) (.slice V (splitN a0 l1 (pre.map Subtype.val)).length cv) (splitN a0 l1 (pre.map Subtype.val)) (splitAt a0 l1 (splitN a0 l1 (pre.map Subtype.val)).length x.1) [.int .i64 a0, .int .i64 ((splitN a0 l1 (pre.map Subtype.val)).length : Int), .bool false, .slice Uo x.1.2 cu] (fun k => w.heap.size + 4 ≤ k) (fun k => some k = (Value.slice Uo x.1.2 cu).ownBlock) rfl rfl ?aP ?aN ?aF ?aO ?aB ?aS ?aL ?_
      case aP =>
        have h5 := k51_mkM w' (w.heap.size + 4) (fun k => some k = (Value.slice Uo x.1.2 cu).ownBlock) (splitAt a0 l1 (splitN a0 l1 (pre.map Subtype.val)).length x.1) (Kd.R_lower (Kd.R_tight rfl hu) hz4)
        exact h5
      case aN =>
        intro k hk
        have h5 := Kd.R_base hu k hk.symm
        refine ⟨Nat.le_trans hz4 h5, fun e => ?_⟩
        have h6 := Kd.S_lt hS k e.symm
        exact absurd h6 (Nat.not_lt.2 h5)
      case aF => exact fun k hk => Nat.le_trans hbase hk
      case aO =>
        refine Kd.S_mono hSw (fun k hk => ⟨hk.1, fun e => ?_⟩)
        exact absurd hk.2 (Nat.not_lt.2 (Kd.R_base hu k e.symm))
      case aB => exact Below.refl _ _
      case aS => exact hbase
      case aL => rw [splitN_len, List.length_map]; omega
      intro v1 w1 ho hb hg hat
      refine hK.out _ _ ⟨(hb.cell (p := ⟨w.heap.size + 1, 0, none⟩) (by show w.heap.size + 1 < w.heap.size + 4; omega)).trans hHeld.1, (hb.cell (p := ⟨w.heap.size, 0, none⟩) (by show w.heap.size < w.heap.size + 4; omega)).trans hHeld.2⟩ (fun hHeld3 => ?_)
      clear hK K
      refine norm_ (a' := ?_) ?_ ?_
      rotate_left
      · show Act.put _ (some 40) _ = _
        simp only [Act.put, List.setIfInBounds_toArray, List.set_cons_zero, List.set_cons_succ, i64_w, i32_w]
        rfl
      have k8 : w1.heap[w.heap.size + 1]? = some (.cells #[.slice V (splitN a0 l1 (pre.map Subtype.val)).length cv] 47 (0, 0)) := (hb.block _ (by omega)).trans ((hbu.block _ (by show w.heap.size + 1 < W.heap.size; omega)).trans h8)
      have hfz : w1.frozen? ⟨w.heap.size + 1, 0, none⟩ = false := by simp [World.frozen?, k8]
      have hcz := hHeld3.1
      obtain ⟨V1, cv1, hv1⟩ := Kd.S_slice ho
      rw [List.length_append, List.length_singleton] at hv1
      subst hv1
      refine last_ (i := 9) (N := none) #[true, true, true, true, true, true, true, true, true, true] rfl rfl (by kernel_rfl) (by decide) (fun K hK => ?_)
      refine skip_ (w1 := w1.setCell ⟨w.heap.size + 1, 0, none⟩ (.slice V1 ((splitN a0 l1 (pre.map Subtype.val)).length + 1) cv1)) (by rfl) rfl ?_ ?_
      · go_simp
      refine hK.out _ _ (done_ (by kernel_rfl) ?_)
      clear hK K
      have keepB : ∀ k, k < W.heap.size → k ≠ w.heap.size + 1 → some k ≠ (Value.slice V (splitN a0 l1 (pre.map Subtype.val)).length cv).ownBlock → (w1.setCell ⟨w.heap.size + 1, 0, none⟩ (.slice V1 ((splitN a0 l1 (pre.map Subtype.val)).length + 1) cv1)).heap[k]? = W.heap[k]? := by
        intro k hk hne hno
        rw [Below.heap_setCell _ _ _ _ hne]
        rw [hg.block k (Nat.lt_of_lt_of_le hk hbu.size) hno]
        exact hbu.block k hk
      have hrow : ∀ k, some k = (Value.slice V (splitN a0 l1 (pre.map Subtype.val)).length cv).ownBlock → w.heap.size + 4 ≤ k ∧ ∃ cells, W.heap[k]? = some (.cells cells 51 (0, 0)) := fun k hk => ⟨Kd.S_base hS k hk.symm, Kd.S_typed hS k hk.symm⟩
      have hszW : W.heap.size ≤ w1.heap.size := Nat.le_trans hbu.size hg.size
      show KeepsOthers W _ ∧ KpB _ _ W _ ∧ SplitI w a0 l1 ad c1 s (pre ++ [x]) _
      refine ⟨⟨by simpa using hszW, fun k o hk hc => ?_⟩, ⟨keepB (w.heap.size + 2) (by omega) (by omega) (fun e => by have := (hrow _ e).1; omega), keepB (w.heap.size + 3) (by omega) (by omega) (fun e => by have := (hrow _ e).1; omega)⟩, ?_⟩
      · have hlt := (Array.getElem?_eq_some_iff.1 hk).1
        rw [keepB k hlt ?_ ?_]
        · exact hk
        · rintro rfl
          rw [h8] at hk
          injection hk with hk
          subst hk
          cases hc
        · intro e
          obtain ⟨_, cells, hcell⟩ := hrow k e
          rw [hcell] at hk
          injection hk with hk
          subst hk
          cases hc
      · have hB1 : Below w.heap.size w w1 := (hBd.trans (hbu.mono (by show w.heap.size ≤ W.heap.size; omega))).trans (hb.mono (by omega))
        refine ⟨⟨.slice V1 ((splitN a0 l1 (pre.map Subtype.val)).length + 1) cv1, ?_, ?_⟩, ?_, ?_, ?_, ?_⟩
        · exact one_setCell k8
        · rw [List.map_append, List.map_singleton, splitN_snoc, List.length_map]
          have ho2 := ho
          rw [splitN_len a0 l1 (pre.map Subtype.val), List.length_map] at ho2 k8 ⊢
          exact Kd.S_set (Kd.S_mono ho2 (fun _ _ => trivial)) k8 (by decide) 0 _
        · rw [keepB _ (by omega) (by omega) (fun e => by have := (hrow _ e).1; omega)]
          exact h3
        · rw [keepB _ (by omega) (by omega) (fun e => by have := (hrow _ e).1; omega)]
          exact h1
        · rw [keepB _ (by omega) (by omega) (fun e => by have := (hrow _ e).1; omega)]
          exact h2
        · exact hB1.setCell (p := ⟨w.heap.size + 1, 0, none⟩) (by show w.heap.size ≤ w.heap.size + 1; omega) _
    case done =>
      rintro D ys W hD hys ⟨⟨v, h8, hS⟩, h3, h1, h2, hB⟩ hK
      have c8 := box_cell h8
      rw [hys] at hS
      have hc1001 := cuts_len s l1.length 1001 0
      have hc1 : 1 ≤ (cuts s l1.length 1001 0).length := by
        rw [show (1001 : Nat) = 1000 + 1 from rfl, cuts, if_pos (by omega)]
        simp
      rw [← splitN_len a0 l1] at hc1 hc1001
      have HX := Aside0.mk hys
      clear hys
      obtain ⟨xs, hxs⟩ : ∃ xs, splitN a0 l1 (cuts s l1.length 1001 0) = xs := ⟨_, rfl⟩
      rw [hxs] at hS hc1 hc1001
      obtain ⟨g, cap, hv, hg4, hgl, cells, hcell⟩ := Kd.S_form hS (by omega)
      subst hv
      obtain ⟨oki, c, hcl, hM, hcc, hfr, hoki, hH⟩ := Kd.S_elem hS z51 ((xs.length : Int) - 1) (by omega) (by omega)
      have ei : ((xs.length : Int) - 1).toNat = xs.length - 1 := by omega
      obtain ⟨v3, hcs, hM3⟩ := k51_openM hM
      have hc2 : W.cell? ⟨g, (xs.length - 1) * 4 + 2, none⟩ = some (.bool (xs.getD ((xs.length : Int) - 1).toNat z51).f2) := by
        have h := hcc 2 (.bool (xs.getD ((xs.length : Int) - 1).toNat z51).f2) (by rw [hcs]; rfl)
        rw [ei] at h ⊢
        exact h
      have hf2 : W.frozen? ⟨g, (xs.length - 1) * 4 + 2, none⟩ = false := by
        have h := hfr 2
        rw [ei] at h
        exact h
      have hne : w.heap.size + 1 ≠ g := by omega
      have c8' : (W.setCell ⟨g, (xs.length - 1) * 4 + 2, none⟩ (.bool true)).cell? ⟨w.heap.size + 1, 0, none⟩ = some (.slice (some ⟨g, 0, none⟩) xs.length cap) := by
        rw [World.cell?_setCell_other _ _ _ _ (by intro e; injection e with e _; omega)]
        exact box_cell h8
      have hseg := Kd.S_seg0 (okp := oki) hH (by omega) (by omega) (seg := [.bool true]) (j := 2) (by show 2 + 1 ≤ 4; omega) (x' := { (xs.getD ((xs.length : Int) - 1).toNat z51) with f2 := true }) (by
        rw [hcs]
        exact k51_mkM W (w.heap.size + 4) oki { (xs.getD ((xs.length : Int) - 1).toNat z51) with f2 := true } hM3) (fun k hk => hk)
      have hS2 : Kd.S k51 51 (W.setCell ⟨g, (xs.length - 1) * 4 + 2, none⟩ (.bool true)) (w.heap.size + 4) (fun _ => True) (.slice (some ⟨g, 0, none⟩) xs.length cap) (setLast xs) := by
        have h := hseg.1
        rw [ei] at h
        exact h
      have HS2 := Aside0.mk hS2
      have HC := Aside0.mk hcs
      have HSEG := Aside0.mk hseg
      have HM := Aside0.mk hM
      have HH := Aside0.mk hH
      have HS := Aside0.mk hS
      have HXS := Aside0.mk hxs
      have HCELL := Aside0.mk hcell
      clear hS2 hcs hseg hM hM3 hH hS hcc hfr hoki hcl ei hcell hxs
      have hDg : D ≠ g := by
        rintro rfl
        obtain ⟨q, hq⟩ : ∃ q, W.heap[D]? = some (.cells q 51 (0, 0)) := ⟨cells, HCELL.out⟩
        rw [hK] at hq
        cases hq
      have HD := Aside0.mk hD
      have HK := Aside0.mk hK
      have HDG := Aside0.mk hDg
      have HBB := Aside0.mk hB
      clear hD hK hDg hB
      gi_wp2
      have hK2 : (W.setCell ⟨g, (xs.length - 1) * 4 + 2, none⟩ (.bool true)).heap[D]? = some (.deferred (some [])) := by
        rw [Below.heap_setCell _ _ _ _ HDG.out]
        exact HK.out
      have hD4 : w.heap.size + 4 ≤ D := by have := HD.out; omega
      refine ⟨by simp, .inl ⟨_, _, rfl, run_takeDeferred hK2, ⟨_, results_2 rfl _ _ _, ⟨_, rfl, ?_, ?_⟩⟩⟩⟩
      · rw [HXS.out]
        refine Kd.S_mono (Kd.S_lower (Kd.S_step (Kd.S_bound HS2.out) (fun k hk hlt => World.putObj_heap_other (fun e => ?_))) (by omega)) (fun _ _ => trivial)
        subst e
        obtain ⟨_, _, _, _, _, cc, hc⟩ := hk
        rw [hK2] at hc
        cases hc
      · refine (HBB.out.setCell (p := ⟨g, (xs.length - 1) * 4 + 2, none⟩) (by show w.heap.size ≤ g; omega) (.bool true)).trans ?_
        exact ⟨rfl, rfl, rfl, by simp, fun k hk => World.putObj_heap_other (by omega)⟩
    case stop =>
      rintro D c pre W _ _ h
      exact h.elim
  · rw [if_neg e5] at h
    cases h
end

end Go.Proofs.Ytogpjenmfgpfiaa.QProgressAssembler
