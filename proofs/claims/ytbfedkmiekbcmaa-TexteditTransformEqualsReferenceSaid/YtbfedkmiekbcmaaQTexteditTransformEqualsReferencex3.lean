-- Written by gen.py (this repo's wip/), which runs the kit's print.py with more arms. Lean checks it.
import Derived.Test.YtbfedkmiekbcmaaQTexteditTransformEqualsReferencex0
import Derived.Test.YtbfedkmiekbcmaaQTexteditTransformEqualsReferencex1
namespace Go.Proofs.Ytbfedkmiekbcmaa.QTexteditTransformEqualsReference
open Go.RowKit Go.Proofs.YtbfedkmiekbcmaaW.PrintWords Go.Proofs.YtbfedkmiekbcmaaW.PrintLast Go.Proofs.YtbfedkmiekbcmaaW.PrintMore
attribute [local go_sem] max2_int min2_int max_two min_two max_three min_three max_four min_four   -- for this text's walks alone
set_option linter.unusedVariables false
set_option linter.unusedSimpArgs false

private theorem isEmpty_bne {α : Type} [BEq α] (l : List α) : (l != []) = !l.isEmpty := by cases l <;> rfl

attribute [local go_sem high] eqA137
/-! ### glossatorref4_EqualEdits: function 69 -/
def glossatorref4_EqualEdits.l0 : Nat → List (S137) → List (S137) → Int → Option (Bool)
  | 0, _, _, _ => none
  | k + 1, x0, x1, x5 => if x5 < (x0.length : Int) then (if 0 ≤ x5 then (if x5 < (x1.length : Int) then (if (!(((rd_T137 x0 x5).f0) == ((rd_T137 x1 x5).f0)) || (!(((rd_T137 x0 x5).f1) == ((rd_T137 x1 x5).f1)) || (!((((rd_T137 x0 x5).f2).toList) == (((rd_T137 x1 x5).f2).toList))))) = true then (some false) else (glossatorref4_EqualEdits.l0 k x0 x1 (wrap64 (x5 + 1)))) else (none)) else (none)) else (some true)
def glossatorref4_EqualEdits.f (k : Nat) (l0 : List (S137)) (l1 : List (S137)) : Option (Bool) := if (l0.length : Int) = (l1.length : Int) then (glossatorref4_EqualEdits.l0 k l0 l1 0) else (some false)
theorem glossatorref4_EqualEdits.mono_l : ∀ k, (∀ y0 y1 y2, LeO (glossatorref4_EqualEdits.l0 k y0 y1 y2) (glossatorref4_EqualEdits.l0 (k + 1) y0 y1 y2))
  | 0 => fun _ _ _ r h => by simp [glossatorref4_EqualEdits.l0] at h
  | k + 1 => by
    have ih0 := glossatorref4_EqualEdits.mono_l k
    · intro y0 y1 y2
      unfold glossatorref4_EqualEdits.l0
      repeat' first
      | (with_reducible exact ih0 _ _ _)
      | (with_reducible exact LeO.refl _)
      | (with_reducible exact LeO.none _)
      | (with_reducible refine LeO.ite ?_ ?_)
      | (with_reducible refine LeO.bind ?_ (fun _ => ?_))
      | exact ih0 _ _ _
      | exact LeO.none _
      | refine LeO.ite ?_ ?_
      | refine LeO.bind ?_ (fun _ => ?_)
theorem glossatorref4_EqualEdits.mono : ∀ a0 a1 k, LeO (glossatorref4_EqualEdits.f k a0 a1) (glossatorref4_EqualEdits.f (k + 1) a0 a1) := by
  intro a0 a1 k
  have ih0 := glossatorref4_EqualEdits.mono_l k
  unfold glossatorref4_EqualEdits.f
  repeat' first
      | (with_reducible exact ih0 _ _ _)
      | (with_reducible exact LeO.refl _)
      | (with_reducible exact LeO.none _)
      | (with_reducible refine LeO.ite ?_ ?_)
      | (with_reducible refine LeO.bind ?_ (fun _ => ?_))
      | exact ih0 _ _ _
      | exact LeO.none _
      | refine LeO.ite ?_ ?_
      | refine LeO.bind ?_ (fun _ => ?_)
set_option maxHeartbeats 8000000 in
set_option maxRecDepth 100000 in
theorem glossatorref4_EqualEdits.calls (k : Nat) (A0 : Option Addr) (c0 : Nat) (l0 : List (S137)) (A1 : Option Addr) (c1 : Nat) (l1 : List (S137)) (r : Bool) (w : World) (hr0 : Kd.C k137 w A0 l0.length l0) (hc0 : l0.length ≤ c0) (hr1 : Kd.C k137 w A1 l1.length l1) (hc1 : l1.length ≤ c1) (h : glossatorref4_EqualEdits.f k l0 l1 = some r) :
    Calls Try.prog 69 #[.slice A0 l0.length c0, .slice A1 l1.length c1] w fun e w' => e = .returned (.bool r) ∧ Drawn0 w w' := by
  have hu137 := Try.underlying137
  have HR0 := Aside0.mk hr0
  have HC0 := Aside0.mk hc0
  clear hr0 hc0
  have HR1 := Aside0.mk hr1
  have HC1 := Aside0.mk hc1
  clear hr1 hc1
  have H : (if (l0.length : Int) = (l1.length : Int) then (glossatorref4_EqualEdits.l0 k l0 l1 0) else (some false)) = some r := h
  clear h
  by_cases c3 : (l0.length : Int) = (l1.length : Int)
  · rw [if_pos c3] at H
    have c3b0 : ((l0.length : Int) == (l1.length : Int)) = true := beq_iff_eq.mpr c3
    have c3b1 : ((l0.length : Int) != (l1.length : Int)) = false := bne_eq_false_iff_eq.mpr c3
    have c3b2 : (l0.length == l1.length) = true := by first | simpa using c3 | (simp at c3 ⊢; omega)
    clear c3
    have H' := Aside0.mk H
    clear H
    go_enter Try.func69, Try.ntmps69
    go_wp2
    repeat (go_quiet (fail); try go_wp2)
    go_loopg [5] k (fun kq v5 w' => ∃ (x5_1 : Int), v5 = .int .i64 x5_1 ∧ Aside0 (glossatorref4_EqualEdits.l0 kq l0 l1 x5_1 = some r) ∧ Aside0 (kq ≤ k) ∧ Drawn0 w w')
    case atStart => exact ⟨(0), (by first | rfl | (simp; done) | (simp [*]; done) | (simp [isEmpty_bne]; done)), H', ⟨Nat.le_refl _⟩, by repeat (first | exact Drawn0.refl _ | apply Drawn0.step)⟩
    case round =>
      clear H'
      try clear c1
      try clear p2
      try clear c3
      try clear c3b0
      try clear c3b1
      try clear c3b2
      obtain ⟨x5_1, rfl, HA, HK1, ⟨m1, rfl⟩⟩ := hrel
      cases gk with
      | zero => exact absurd HA.out (by simp [glossatorref4_EqualEdits.l0])
      | succ k1 =>
        have H := HA.out
        clear HA
        simp only [glossatorref4_EqualEdits.l0] at H
        by_cases c4 : x5_1 < (l0.length : Int)
        · rw [if_pos c4] at H
          have c4b0 : decide (x5_1 < (l0.length : Int)) = true := decide_eq_true c4
          clear c4
          by_cases c5 : 0 ≤ x5_1
          · rw [if_pos c5] at H
            have c5b0 : decide (0 ≤ x5_1) = true := decide_eq_true c5
            clear c5
            by_cases c6 : x5_1 < (l1.length : Int)
            · rw [if_pos c6] at H
              have c6b0 : decide (x5_1 < (l1.length : Int)) = true := decide_eq_true c6
              clear c6
              by_cases c7 : (!(((rd_T137 l0 x5_1).f0) == ((rd_T137 l1 x5_1).f0)) || (!(((rd_T137 l0 x5_1).f1) == ((rd_T137 l1 x5_1).f1)) || (!((((rd_T137 l0 x5_1).f2).toList) == (((rd_T137 l1 x5_1).f2).toList))))) = true
              · rw [if_pos c7] at H
                have c7b0 : (!(((rd_T137 l0 x5_1).f0) == ((rd_T137 l1 x5_1).f0)) || (!(((rd_T137 l0 x5_1).f1) == ((rd_T137 l1 x5_1).f1)) || (!((((rd_T137 l0 x5_1).f2).toList) == (((rd_T137 l1 x5_1).f2).toList))))) = true := c7
                clear c7
                obtain rfl := Option.some.inj H
                have p109 : 0 ≤ (x5_1 : Int) := of_decide_eq_true (by first | (with_reducible assumption) | assumption)
                have q109 : x5_1 < (l0.length : Int) := of_decide_eq_true (by first | (with_reducible assumption) | assumption)
                obtain ⟨ad109, e109, hx109_0, hx109_1, hx109_2⟩ := at_T137 HR0.out x5_1 p109 q109
                cases e109
                replace p109 := eq_true p109
                replace q109 := eq_true q109
                have p110 : 0 ≤ (x5_1 : Int) := of_decide_eq_true (by first | (with_reducible assumption) | assumption)
                have q110 : x5_1 < (l1.length : Int) := of_decide_eq_true (by first | (with_reducible assumption) | assumption)
                obtain ⟨ad110, e110, hx110_0, hx110_1, hx110_2⟩ := at_T137 HR1.out x5_1 p110 q110
                cases e110
                replace p110 := eq_true p110
                replace q110 := eq_true q110
                go_wp2
                repeat (go_quiet (fail); try go_wp2)
                go_ret
                exact ⟨by first | rfl | (simp; done) | (simp [*]; done), by repeat (first | exact Drawn0.refl _ | apply Drawn0.step)⟩
              · rw [if_neg c7] at H
                have c7b0 : (!(((rd_T137 l0 x5_1).f0) == ((rd_T137 l1 x5_1).f0)) || (!(((rd_T137 l0 x5_1).f1) == ((rd_T137 l1 x5_1).f1)) || (!((((rd_T137 l0 x5_1).f2).toList) == (((rd_T137 l1 x5_1).f2).toList))))) = false := by simpa using c7
                clear c7
                have H' := Aside0.mk H
                clear H
                have p109 : 0 ≤ (x5_1 : Int) := of_decide_eq_true (by first | (with_reducible assumption) | assumption)
                have q109 : x5_1 < (l0.length : Int) := of_decide_eq_true (by first | (with_reducible assumption) | assumption)
                obtain ⟨ad109, e109, hx109_0, hx109_1, hx109_2⟩ := at_T137 HR0.out x5_1 p109 q109
                cases e109
                replace p109 := eq_true p109
                replace q109 := eq_true q109
                have p110 : 0 ≤ (x5_1 : Int) := of_decide_eq_true (by first | (with_reducible assumption) | assumption)
                have q110 : x5_1 < (l1.length : Int) := of_decide_eq_true (by first | (with_reducible assumption) | assumption)
                obtain ⟨ad110, e110, hx110_0, hx110_1, hx110_2⟩ := at_T137 HR1.out x5_1 p110 q110
                cases e110
                replace p110 := eq_true p110
                replace q110 := eq_true q110
                go_wp2
                repeat (go_quiet (fail); try go_wp2)
                go_roundg k1
                case measure => have := HK1.out; omega
                case rel => exact ⟨(wrap64 (x5_1 + 1)), (by first | rfl | (simp; done) | (simp [*]; done) | (simp [isEmpty_bne]; done)), H', ⟨by have := HK1.out; omega⟩, by repeat (first | exact Drawn0.refl _ | apply Drawn0.step)⟩
            · rw [if_neg c6] at H
              exact absurd H (by simp)
          · rw [if_neg c5] at H
            exact absurd H (by simp)
        · rw [if_neg c4] at H
          have c4b0 : decide (x5_1 < (l0.length : Int)) = false := decide_eq_false c4
          clear c4
          obtain rfl := Option.some.inj H
          go_wp2
          repeat (go_quiet (fail); try go_wp2)
          go_ret
          exact ⟨by first | rfl | (simp; done) | (simp [*]; done), by repeat (first | exact Drawn0.refl _ | apply Drawn0.step)⟩
  · rw [if_neg c3] at H
    have c3b0 : ((l0.length : Int) == (l1.length : Int)) = false := beq_eq_false_iff_ne.mpr c3
    have c3b1 : ((l0.length : Int) != (l1.length : Int)) = true := bne_iff_ne.mpr c3
    have c3b2 : (l0.length == l1.length) = false := by first | simpa using c3 | (simp at c3 ⊢; omega)
    obtain rfl := Option.some.inj H
    go_enter Try.func69, Try.ntmps69
    go_wp2
    repeat (go_quiet (fail); try go_wp2)
    go_ret
    exact ⟨by first | rfl | (simp; done) | (simp [*]; done), by repeat (first | exact Drawn0.refl _ | apply Drawn0.step)⟩

section
open Go.Proofs.Ytbfedkmiekbcmaa.Hand
theorem info_137 : (Try.prog.info? 137).map (fun i => (i.zero, i.size, i.bytes)) = some (some (.agg #[.int .i64 0, .int .i64 0, .string ⟨#[]⟩]), 3, 32) := by kernel_rfl
theorem info_5 : (Try.prog.info? 5).map (fun i => (i.zero, i.size, i.bytes)) = some (some (.int .u8 0), 1, 1) := by kernel_rfl
/-- The edits so far, the start, what waits. -/
def CanI (ob : Nat) (start : Int) (pend : List Int) (out : List S137) (W : World) : Prop :=
  ∃ u v, W.heap[ob]? = some (.cells #[u] 57 (0, 0)) ∧ W.heap[ob + 1]? = some (.cells #[.int .i64 start] 3 (0, 0)) ∧ W.heap[ob + 2]? = some (.cells #[v] 143 (0, 0)) ∧
    Kd.R k137 137 W (ob + 3) (fun k => some k = u.ownBlock) u out ∧ Kd.R (Kd.int .u8) 5 W (ob + 3) (fun k => some k = v.ownBlock) v pend ∧ ∀ k, u.ownBlock = some k → v.ownBlock ≠ some k
theorem k137_E : k137.E = [] := rfl
def flushP (start : Int) (pend : List Int) (out : List S137) (e : Int) : Option (Int × List Int × List S137) :=
  if start < e ∨ pend ≠ [] then (if out.length < 4398046511104 then some (wrap64 (e + 1), [], out ++ [⟨start, e, strOfNums pend⟩]) else none) else some (wrap64 (e + 1), [], out)
set_option maxRecDepth 100000 in
set_option maxHeartbeats 4000000 in
theorem flush_calls (ob : Nat) (start : Int) (pend : List Int) (out : List S137) (e : Int) (r : Int × List Int × List S137) (W : World) (hI : CanI ob start pend out W) (h : flushP start pend out e = some r) :
    Calls Try.prog 139 #[.int .i64 e, .pointer (some ⟨ob + 1, 0, none⟩), .pointer (some ⟨ob + 2, 0, none⟩), .pointer (some ⟨ob, 0, none⟩)] W fun e' w' => e' = .returned (.tuple #[]) ∧ CanI ob r.1 r.2.1 r.2.2 w' ∧ Below ob W w' := by
  obtain ⟨u, v, h1, h2, h3, h4, h5, h6⟩ := hI
  obtain ⟨U, cu, hu⟩ := Kd.R_slice h4
  obtain ⟨V, cv, hv⟩ := Kd.R_slice h5
  subst hu hv
  obtain ⟨_, _, hvr⟩ := Kd.R_reads' h5
  have hconv : (convert 143 9 (.slice V pend.length cv)).run Try.prog W = .ok (.string (strOfNums pend)) W := Kd.C_string Try.underlying143 Try.underlying5 Try.underlying9 hvr
  have hplen := hvr.2.1
  have x1 := cell_of_blk h1
  have x2 := cell_of_blk h2
  have x3 := cell_of_blk h3
  have H1 := Aside0.mk h1
  have H2 := Aside0.mk h2
  have H3 := Aside0.mk h3
  have H4 := Aside0.mk h4
  have H5 := Aside0.mk h5
  have H6 := Aside0.mk h6
  clear h1 h2 h3 h4 h5 h6 hvr
  unfold flushP at h
  -- behind the test: an edit more
  by_cases c : start < e ∨ pend ≠ []
  · rw [if_pos c] at h
    split at h
    · next hlim =>
      injection h with h
      subst h
      have HLIM := Aside0.mk hlim
      clear hlim
      have step : ∀ (w1 : World) (V5 : Option Addr) (c5 : Nat), Kd.R k137 137 w1 (ob + 3) (fun _ => True) (.slice V5 (out.length + 1) c5) (out ++ [⟨start, e, strOfNums pend⟩]) → Below (ob + 3) W w1 →
          CanI ob (wrap64 (e + 1)) [] (out ++ [⟨start, e, strOfNums pend⟩]) (((w1.setCell ⟨ob, 0, none⟩ (.slice V5 (out.length + 1) c5)).setCell ⟨ob + 1, 0, none⟩ (.int .i64 (wrap64 (e + 1)))).setCell ⟨ob + 2, 0, none⟩ (.slice none 0 0)) := by
        intro w1 V5 c5 g1 g2
        have hlen : out.length + 1 = (out ++ [(⟨start, e, strOfNums pend⟩ : S137)]).length := by simp
        refine ⟨.slice V5 (out.length + 1) c5, .slice none 0 0, ?_, ?_, ?_, ?_, Kd.R_nil _ _ _ _ _, fun k _ h => by cases h⟩
        · exact hb_far (hb_far (hb_set ((g2.block _ (by omega)).trans H1.out) 0 _) (by show ob ≠ ob + 1; omega) _) (by show ob ≠ ob + 2; omega) _
        · exact hb_far (hb_set (hb_far ((g2.block _ (by omega)).trans H2.out) (by show ob + 1 ≠ ob; omega) _) 0 _) (by show ob + 1 ≠ ob + 2; omega) _
        · exact hb_set (hb_far (hb_far ((g2.block _ (by omega)).trans H3.out) (by show ob + 2 ≠ ob; omega) _) (by show ob + 2 ≠ ob + 1; omega) _) 0 _
        · refine Kd.R_tight k137_E (Kd.R_mono (Kd.R_step (Kd.R_bound g1) (fun k hk _ => ?_)) (fun _ _ => trivial) (ok' := fun _ => True))
          have hk2 := hk.2.1
          exact (Below.heap_setCell _ _ _ _ (by show k ≠ ob + 2; omega)).trans ((Below.heap_setCell _ _ _ _ (by show k ≠ ob + 1; omega)).trans (Below.heap_setCell _ _ _ _ (by show k ≠ ob; omega)))
      have HST := Aside0.mk step
      clear step
      have HR4 := Aside0.mk (Kd.R_mono H4.out (ok' := fun _ => True) (fun _ _ => trivial))
      have hbase : ob + 2 < W.heap.size := lt_of_blk H3.out
      by_cases d : start < e
      · have b1 : decide (start < e) = true := by simp [d]
        clear c d
        go_enter Try.func139, Try.ntmps139
        go_upto_region 2 with (first | ((with_reducible refine gate_builtin (b := .append) (xs := #[.tmp 13, .tmp 19]) rfl ?_); at_builtin; refine Kd.R_append k137 (w0 := W) (ob + 3) rfl (.tmp 13) (.tmp 19) 57 137 (.agg #[.int .i64 0, .int .i64 0, .string ⟨#[]⟩]) 32 rfl Try.underlying57 info_137 rfl (by decide) (by omega) (.slice U out.length cu) out ⟨start, e, strOfNums pend⟩ [.int .i64 start, .int .i64 e, .string (strOfNums pend)] (fun _ => True) (fun _ => False) rfl rfl (k137_mkM _ _ _ ⟨start, e, strOfNums pend⟩) (fun _ h => h.elim) (fun _ _ => trivial) HR4.out (Below.refl _ _) hbase (by have := HLIM.out; omega) ?_; intro v5 w5 ho hb hg hat; (obtain ⟨V5, c5, hv5⟩ := Kd.R_slice ho); (rw [List.length_append, List.length_singleton] at hv5); subst hv5; (have h15 := (hb.block _ (by omega)).trans H1.out); (have h25 := (hb.block _ (by omega)).trans H2.out); (have h35 := (hb.block _ (by omega)).trans H3.out); (have s6 := cell_of_blk h15); (have f6 := free_of_blk h15 0); (have s7 := cell_of_blk h25); (have f7 := free_of_blk h25 0); (have s8 := cell_of_blk h35); (have f8 := free_of_blk h35 0); (have HO5 := Aside0.mk ho); (have HB5 := Aside0.mk hb); clear ho hb hg hat h15 h25 h35 x1 x2 x3 hconv))
        go_wp2
        go_end0
        exact ⟨rfl, HST.out _ V5 c5 HO5.out HB5.out, (((HB5.out.mono (B' := ob) (by omega)).setCell (p := ⟨ob, 0, none⟩) (Nat.le_refl _) _).setCell (p := ⟨ob + 1, 0, none⟩) (by show ob ≤ ob + 1; omega) _).setCell (p := ⟨ob + 2, 0, none⟩) (by show ob ≤ ob + 2; omega) _⟩
      · have b1 : decide (start < e) = false := by simp [d]
        have hne : pend.length ≠ 0 := fun h0 => c.elim d (fun hp => hp (List.eq_nil_of_length_eq_zero h0))
        have b2 : decide ((pend.length : Int) > 0) = true := by simp; omega
        have b3 : decide (0 < (pend.length : Int)) = true := b2
        have b4 : (0 < pend.length) = True := eq_true (by omega)
        clear c d
        go_enter Try.func139, Try.ntmps139
        go_upto_region 2 with (first | ((with_reducible refine gate_builtin (b := .append) (xs := #[.tmp 13, .tmp 19]) rfl ?_); at_builtin; refine Kd.R_append k137 (w0 := W) (ob + 3) rfl (.tmp 13) (.tmp 19) 57 137 (.agg #[.int .i64 0, .int .i64 0, .string ⟨#[]⟩]) 32 rfl Try.underlying57 info_137 rfl (by decide) (by omega) (.slice U out.length cu) out ⟨start, e, strOfNums pend⟩ [.int .i64 start, .int .i64 e, .string (strOfNums pend)] (fun _ => True) (fun _ => False) rfl rfl (k137_mkM _ _ _ ⟨start, e, strOfNums pend⟩) (fun _ h => h.elim) (fun _ _ => trivial) HR4.out (Below.refl _ _) hbase (by have := HLIM.out; omega) ?_; intro v5 w5 ho hb hg hat; (obtain ⟨V5, c5, hv5⟩ := Kd.R_slice ho); (rw [List.length_append, List.length_singleton] at hv5); subst hv5; (have h15 := (hb.block _ (by omega)).trans H1.out); (have h25 := (hb.block _ (by omega)).trans H2.out); (have h35 := (hb.block _ (by omega)).trans H3.out); (have s6 := cell_of_blk h15); (have f6 := free_of_blk h15 0); (have s7 := cell_of_blk h25); (have f7 := free_of_blk h25 0); (have s8 := cell_of_blk h35); (have f8 := free_of_blk h35 0); (have HO5 := Aside0.mk ho); (have HB5 := Aside0.mk hb); clear ho hb hg hat h15 h25 h35 x1 x2 x3 hconv))
        go_wp2
        go_end0
        exact ⟨rfl, HST.out _ V5 c5 HO5.out HB5.out, (((HB5.out.mono (B' := ob) (by omega)).setCell (p := ⟨ob, 0, none⟩) (Nat.le_refl _) _).setCell (p := ⟨ob + 1, 0, none⟩) (by show ob ≤ ob + 1; omega) _).setCell (p := ⟨ob + 2, 0, none⟩) (by show ob ≤ ob + 2; omega) _⟩
    · cases h
  · rw [if_neg c] at h
    injection h with h
    subst h
    have b1 : decide (start < e) = false := by simp; omega
    have hp : pend = [] := Classical.byContradiction (fun h => c (.inr h))
    subst hp
    clear c
    have s7 := free_of_blk H2.out 0
    have s8 := free_of_blk H3.out 0
    go_enter Try.func139, Try.ntmps139
    go_wp2
    go_end0
    refine ⟨rfl, ⟨.slice U out.length cu, .slice none 0 0, ?_, ?_, ?_, ?_, Kd.R_nil _ _ _ _ _, fun k _ h => by cases h⟩, ?_⟩
    · exact hb_far (hb_far H1.out (by show ob ≠ ob + 1; omega) _) (by show ob ≠ ob + 2; omega) _
    · exact hb_far (hb_set H2.out 0 _) (by show ob + 1 ≠ ob + 2; omega) _
    · exact hb_set (hb_far H3.out (by show ob + 2 ≠ ob + 1; omega) _) 0 _
    · have hb := Kd.R_base H4.out
      exact Kd.R_step H4.out (fun k hk _ => by
        have hk2 := hb k hk.symm
        exact (Below.heap_setCell _ _ _ _ (by show k ≠ ob + 2; omega)).trans (Below.heap_setCell _ _ _ _ (by show k ≠ ob + 1; omega)))
    · exact (((Below.refl _ _)).setCell (p := ⟨ob + 1, 0, none⟩) (by show ob ≤ ob + 1; omega) _).setCell (p := ⟨ob + 2, 0, none⟩) (by show ob ≤ ob + 2; omega) _

def canP : List S200 → Int → List Int → List S137 → Option (Int × List Int × List S137)
  | [], start, pend, out => some (start, pend, out)
  | b :: t, start, pend, out => if b.f1 = -1 then (if pend.length < 140737488355328 then canP t start (pend ++ [b.f0]) out else none) else (flushP start pend out b.f1).bind fun r => canP t r.1 r.2.1 r.2.2
def textedit_canonical.f (a0 : Int) (l1 : List S200) : Option (List S137 × Int) :=
  (canP l1 0 [] []).bind fun r => (flushP r.1 r.2.1 r.2.2 a0).bind fun r2 => if (r2.2.2.length : Int) > 50 then some ([], 2) else some (r2.2.2, 0)
def CanL (l1 : List S200) (r : Int × List Int × List S137) (w : World) (i : Nat) (W : World) : Prop :=
  ∃ start pend out, canP (l1.drop i) start pend out = some r ∧ CanI w.heap.size start pend out W ∧ Below w.heap.size w W
theorem can_new {ob : Nat} {start : Int} {pend : List Int} {out : List S137} {W W' : World} (h : CanI ob start pend out W) (hb : Below W.heap.size W W') : CanI ob start pend out W' := by
  obtain ⟨u, v, h1, h2, h3, h4, h5, h6⟩ := h
  exact ⟨u, v, (hb.block _ (lt_of_blk h1)).trans h1, (hb.block _ (lt_of_blk h2)).trans h2, (hb.block _ (lt_of_blk h3)).trans h3, Kd.R_below h4 hb, Kd.R_below h5 hb, h6⟩
set_option maxRecDepth 100000 in
set_option maxHeartbeats 4000000 in
theorem textedit_canonical.calls (a0 : Int) (A1 : Option Addr) (c1 : Nat) (l1 : List (S200)) (r1 : List S137) (r2 : Int) (w : World) (hr1 : Kd.C k200 w A1 l1.length l1) (hc1 : l1.length ≤ c1) (h : textedit_canonical.f a0 l1 = some (r1, r2)) :
    Calls Try.prog 115 #[.int .i64 a0, .slice A1 l1.length c1] w fun e w' => ∃ v0_ : Value, e = .returned (.tuple #[v0_, .int .i64 r2]) ∧ Kd.R k137 137 w' w.heap.size (fun _ => True) v0_ r1 ∧ Below w.heap.size w w' := by
  unfold textedit_canonical.f at h
  obtain ⟨r, hc, h⟩ := Option.bind_eq_some_iff.1 h
  obtain ⟨q, hf, h⟩ := Option.bind_eq_some_iff.1 h
  have HQ := Aside0.mk hr1
  have HC := Aside0.mk hc
  have HF := Aside0.mk hf
  have H := Aside0.mk h
  have hlen := hr1.2.1
  clear hr1 hc hf h hc1
  go_enter Try.func115, Try.ntmps115
  go_wp2
  go_loopg [15] l1.length (fun kq v15 W => ∃ (i : Nat), v15 = .int .i64 (i : Int) ∧ kq + i = l1.length ∧ Aside0 (CanL l1 r w i W))
  case atStart =>
    refine ⟨0, rfl, by omega, ⟨0, [], [], HC.out, ?_, ?_⟩⟩
    · refine ⟨.slice none 0 0, .slice none 0 0, hb_alloc (hb_alloc (hb_new w _)), ?_, ?_, Kd.R_nil _ _ _ _ _, Kd.R_nil _ _ _ _ _, fun k h => by cases h⟩
      · have h1 := hb_new (w.alloc (.cells #[.slice none 0 0] 57)) (.cells #[.int .i64 0] 3)
        rw [World.size_alloc] at h1
        exact hb_alloc h1
      · have h1 := hb_new ((w.alloc (.cells #[.slice none 0 0] 57)).alloc (.cells #[.int .i64 0] 3)) (.cells #[.slice none 0 0] 143)
        rw [World.size_alloc, World.size_alloc] at h1
        exact h1
    · exact below_alloc (below_alloc (below_alloc (Below.refl _ _) _) _) _
  case round =>
    obtain ⟨i, rfl, hi, hR⟩ := hrel
    obtain ⟨start, pend, out, hrun, hI, hbel⟩ := hR.out
    cases gk with
    | zero =>
      obtain rfl : i = l1.length := by omega
      rw [List.drop_length] at hrun
      injection hrun with hrun
      subst hrun
      have HI := Aside0.mk hI
      have HB := Aside0.mk hbel
      have H2 := H.out
      clear hI hbel hR hi HC H
      have fl := flush_calls w.heap.size start pend out a0 q wr HI.out HF.out
      have FL := Aside0.mk fl
      clear fl
      by_cases c : (q.2.2.length : Int) > 50
      · rw [if_pos c] at H2
        injection H2 with H2
        injection H2 with e1 e2
        subst e1 e2
        have b1 : decide ((q.2.2.length : Int) > 50) = true := by simp only [decide_eq_true_eq]; exact c
        have b2 : decide (50 < q.2.2.length) = true := by simp; omega
        have b3 : (50 < q.2.2.length) = True := eq_true (by omega)
        clear c
        go_upto_region 13 with (go_at_call 139; refine FL.out.mono ?_; rintro e w3 ⟨rfl, hI3, hb3⟩; obtain ⟨u, v, h1, h2, h3, h4, h5, h6⟩ := hI3; obtain ⟨U, cu, hu⟩ := Kd.R_slice h4; subst hu; (have x1 := cell_of_blk h1); (have HB3 := Aside0.mk (HB.out.trans hb3)); clear h1 h2 h3 h4 h5 h6 hb3)
        go_wp2
        go_ret2
        exact ⟨.slice none 0 0, rfl, Kd.R_nil _ _ _ _ _, HB3.out⟩
      · rw [if_neg c] at H2
        injection H2 with H2
        injection H2 with e1 e2
        subst e1 e2
        have b1 : decide ((q.2.2.length : Int) > 50) = false := by simp only [decide_eq_false_iff_not]; exact c
        have b2 : decide (50 < q.2.2.length) = false := by simp; omega
        have b3 : (50 < q.2.2.length) = False := eq_false (by omega)
        clear c
        go_upto_region 13 with (go_at_call 139; refine FL.out.mono ?_; rintro e w3 ⟨rfl, hI3, hb3⟩; obtain ⟨u, v, h1, h2, h3, h4, h5, h6⟩ := hI3; obtain ⟨U, cu, hu⟩ := Kd.R_slice h4; subst hu; (have x1 := cell_of_blk h1); (have HB3 := Aside0.mk (HB.out.trans hb3)); (have H4 := Aside0.mk h4); clear h1 h2 h3 h4 h5 h6 hb3)
        go_wp2
        go_ret2
        exact ⟨_, rfl, Kd.R_mono (Kd.R_lower H4.out (by omega)) (fun _ _ => trivial), HB3.out⟩
    | succ k1 =>
      have hlt : i < l1.length := by omega
      rw [List.drop_eq_getElem_cons hlt] at hrun
      have hx := at_T200 (Kd.C_below HQ.out hbel) (i : Int) (by omega) (by omega)
      obtain ⟨ad, hA, x0, x1⟩ := hx
      have hq : rd_T200 l1 (i : Int) = l1[i] := by simp [rd_T200, List.getD_eq_getElem?_getD, hlt]
      rw [hq] at x0 x1
      rw [Int.toNat_natCast] at x0 x1
      obtain ⟨b, hbb⟩ : ∃ q, l1[i] = q := ⟨_, rfl⟩
      rw [hbb] at x0 x1 hrun
      clear hq hbb
      rw [canP] at hrun
      have p5 : (0 ≤ (i : Int)) = True := eq_true (by omega)
      have p6 : ((i : Int) < (l1.length : Int)) = True := eq_true (by omega)
      have HI := Aside0.mk hI
      have HBE := Aside0.mk hbel
      have HRUN := Aside0.mk hrun
      clear hI hbel hrun hR HC
      subst hA
      have HI1 : Aside0 (CanI w.heap.size start pend out (wr.alloc (.cells #[.int .u8 b.f0, .int .i64 b.f1] 200))) := ⟨can_new HI.out (below_alloc (Below.refl _ _) _)⟩
      have HB1 : Aside0 (Below w.heap.size w (wr.alloc (.cells #[.int .u8 b.f0, .int .i64 b.f1] 200))) := ⟨HBE.out.trans ((below_alloc (Below.refl _ _) _).mono HBE.out.size)⟩
      have e0 : (wr.alloc (.cells #[.int .u8 b.f0, .int .i64 b.f1] 200)).cell? ⟨wr.heap.size, 0, none⟩ = some (.int .u8 b.f0) := (cells_of_blk (hb_new wr (.cells #[.int .u8 b.f0, .int .i64 b.f1] 200)) 0).trans rfl
      have e1 : (wr.alloc (.cells #[.int .u8 b.f0, .int .i64 b.f1] 200)).cell? ⟨wr.heap.size, 1, none⟩ = some (.int .i64 b.f1) := (cells_of_blk (hb_new wr (.cells #[.int .u8 b.f0, .int .i64 b.f1] 200)) 1).trans rfl
      have hrun := HRUN.out
      clear HRUN
      by_cases cb : b.f1 = -1
      · rw [if_pos cb] at hrun
        split at hrun
        · next hlim =>
          have HLIM := Aside0.mk hlim
          have HRUN := Aside0.mk hrun
          have b1 : (b.f1 == -1) = true := by simp [cb]
          clear hrun hlim cb
          go_upto_region 8 with (fail)
          generalize wr.alloc (.cells #[.int .u8 b.f0, .int .i64 b.f1] 200) = W1 at *
          obtain ⟨u, v, h1, h2, h3, h4, h5, h6⟩ := HI1.out
          obtain ⟨V, cv, hv⟩ := Kd.R_slice h5
          subst hv
          have y1 : W1.cell? ⟨w.heap.size + 1 + 1, 0, none⟩ = some (.slice V pend.length cv) := cell_of_blk h3
          have H1 := Aside0.mk h1
          have H2 := Aside0.mk h2
          have H3 := Aside0.mk h3
          have H4 := Aside0.mk h4
          have H5 := Aside0.mk h5
          have H6 := Aside0.mk h6
          have HR5 := Aside0.mk (Kd.R_mono h5 (ok' := fun _ => True) (fun _ _ => trivial))
          have hbase : w.heap.size + 2 < W1.heap.size := lt_of_blk h3
          clear h1 h2 h3 h4 h5 h6 HI1 x0 x1
          go_upto_region 11 with (first | ((with_reducible refine gate_builtin (b := .append) (xs := #[.tmp 22, .tmp 25]) rfl ?_); at_builtin; refine Kd.R_append (Kd.int .u8) (w0 := W1) (w.heap.size + 3) rfl (.tmp 22) (.tmp 25) 143 5 (.int .u8 0) 1 rfl Try.underlying143 info_5 rfl (by decide) (by omega) (.slice V pend.length cv) pend b.f0 [.int .u8 b.f0] (fun _ => True) (fun _ => False) rfl rfl rfl (fun _ h => h.elim) (fun _ _ => trivial) HR5.out (Below.refl _ _) hbase (by have := HLIM.out; omega) ?_; intro v5 w5 ho hb hg hat; (obtain ⟨V5, c5, hv5⟩ := Kd.R_slice ho); (rw [List.length_append, List.length_singleton] at hv5); subst hv5; (have h35 : w5.heap[w.heap.size + 1 + 1]? = _ := (hb.block _ (by omega)).trans H3.out); (have s6 := cell_of_blk h35); (have f6 := free_of_blk h35 0); (have HO5 := Aside0.mk ho); (have HB5 := Aside0.mk hb); (have HG5 := Aside0.mk hg); (have HAT := Aside0.mk hat); (have H35 := Aside0.mk h35); clear ho hb hg hat h35 y1))
          go_wp2
          go_roundg k1
          case measure => omega
          case rel =>
            have hnu : ∀ k, u.ownBlock = some k → w.heap.size + 3 ≤ k := Kd.R_base H4.out
            refine ⟨i + 1, by first | rfl | (congr 1; unfold wrap64; omega), by omega, ⟨start, pend ++ [b.f0], out, HRUN.out, ⟨u, .slice V5 (pend.length + 1) c5, ?_, ?_, ?_, ?_, ?_, ?_⟩, ?_⟩⟩
            · exact hb_far ((HB5.out.block _ (by omega)).trans H1.out) (by show w.heap.size ≠ w.heap.size + 1 + 1; omega) _
            · exact hb_far ((HB5.out.block _ (by omega)).trans H2.out) (by show w.heap.size + 1 ≠ w.heap.size + 1 + 1; omega) _
            · exact hb_set H35.out 0 _
            · refine Kd.R_step H4.out (fun k hk hlt => ?_)
              have hk2 := hnu k hk.symm
              exact (Below.heap_setCell _ _ _ _ (by show k ≠ w.heap.size + 1 + 1; omega)).trans (HG5.out.block k hlt (fun e => H6.out k hk.symm e.symm))
            · refine Kd.R_tight rfl (Kd.R_mono (Kd.R_step (Kd.R_bound (by have := HO5.out; exact this)) (fun k hk _ => Below.heap_setCell _ _ _ _ (by have := hk.2.1; show k ≠ w.heap.size + 1 + 1; omega))) (fun _ _ => trivial) (ok' := fun _ => True))
            · intro k hk
              have hlt := Kd.R_lt H4.out k hk
              rcases HAT.out with h | ⟨b', h, hb'⟩
              · rw [h]; exact H6.out k hk
              · rw [h]; intro e; injection e with e; omega
            · exact (HB1.out.trans (HB5.out.mono (by omega))).setCell (p := ⟨w.heap.size + 1 + 1, 0, none⟩) (by show w.heap.size ≤ w.heap.size + 1 + 1; omega) _
        · cases hrun
      · rw [if_neg cb] at hrun
        obtain ⟨r', hr', hrun⟩ := Option.bind_eq_some_iff.1 hrun
        have HRUN := Aside0.mk hrun
        have b1 : (b.f1 == -1) = false := by simp [cb]
        have fl := flush_calls w.heap.size start pend out b.f1 r' _ HI1.out hr'
        have FL := Aside0.mk fl
        clear hrun hr' cb fl
        go_upto_region 8 with (fail)
        generalize wr.alloc (.cells #[.int .u8 b.f0, .int .i64 b.f1] 200) = W1 at *
        go_wp2_with (go_at_call 139; refine FL.out.mono ?_; rintro e w3 ⟨rfl, hI3, hb3⟩; (have HI3 := Aside0.mk hI3); (have HB3 := Aside0.mk (HB1.out.trans hb3)); clear hI3 hb3)
        go_roundg k1
        case measure => omega
        case rel =>
          exact ⟨i + 1, by first | rfl | (congr 1; unfold wrap64; omega), by omega, ⟨_, _, _, HRUN.out, HI3.out, HB3.out⟩⟩
end

section
open Go.Proofs.Ytbfedkmiekbcmaa.Hand
theorem info_200 : (Try.prog.info? 200).map (fun i => (i.zero, i.size, i.bytes)) = some (some (.agg #[.int .u8 0, .int .i64 0]), 2, 16) := by kernel_rfl
/-- The bytes of a string, as inserted ones. -/
def insB (o : Int) (s : ByteArray) : List S200 := s.data.toList.map (fun b => ⟨(b.toNat : Int), o⟩)
theorem insB_length (o : Int) (s : ByteArray) : (insB o s).length = s.size := by
  unfold insB
  rw [List.length_map]
  rfl
theorem insB_take (o : Int) (s : ByteArray) {j : Nat} (hj : j < s.size) : (insB o s).take (j + 1) = (insB o s).take j ++ [⟨((s.data.toList.getD j 0).toNat : Int), o⟩] := by
  have hl : j < s.data.toList.length := hj
  rw [List.take_add_one]
  congr 1
  unfold insB
  rw [List.getElem?_map, List.getElem?_eq_getElem hl, List.getD_eq_getElem?_getD, List.getElem?_eq_getElem hl]
  rfl
def trP (bs : List S200) : List S137 → Int → List S200 → Option (List S200)
  | [], off, out => if 0 ≤ off then (if off ≤ (bs.length : Int) then (if (out.length + (bs.length - off.toNat)) * 16 ≤ 140737488355328 then some (out ++ bs.drop off.toNat) else none) else none) else none
  | e :: t, off, out => if 0 ≤ off then (if off ≤ e.f0 then (if e.f0 ≤ (bs.length : Int) then (if (out.length + (e.f0.toNat - off.toNat) + e.f2.size) * 16 ≤ 140737488355328 then trP bs t e.f1 (out ++ (bs.take e.f0.toNat).drop off.toNat ++ insB (-1) e.f2) else none) else none) else none) else none
def textedit_applyTraced.f (l0 : List S200) (l1 : List S137) : Option (List S200) := trP l0 l1 0 []
/-- A string's bytes in a row of their own. -/
theorem bytes_conv (W : World) (s : ByteArray) : ∃ cap Wb, (convert 9 143 (.string s)).run Try.prog W = .ok (.slice (some ⟨W.heap.size, 0, none⟩) s.size cap) Wb ∧ Below W.heap.size W Wb ∧ Wb.heap.size = W.heap.size + 1 ∧
    ∀ j, j < s.size → Wb.cell? ⟨W.heap.size, j, none⟩ = some (.int .u8 (s.data.toList.getD j 0).toNat) :=
  ⟨_, _, Lib.run_convert_string_bytes W 9 143 5 s Try.underlying9 Try.underlying143 Try.underlying5, ⟨rfl, rfl, rfl, by rw [Lib.bytesWorld_size]; omega, fun k hk => Lib.bytesWorld_at_old W 5 s k hk⟩, Lib.bytesWorld_size W 5 s, fun j hj => Lib.bytesWorld_cell W 5 s j hj⟩
def TrI (bs : List S200) (es : List S137) (r : List S200) (w : World) (i : Nat) (off : Int) (v : Value) (W : World) : Prop :=
  ∃ out, trP bs (es.drop i) off out = some r ∧ Kd.R k200 200 W w.heap.size (fun _ => True) v out ∧ Below w.heap.size w W
/-- In the inner range: what has been taken out of the string. -/
def InI (s : ByteArray) (out : List S200) (w : World) (v0 : Value) (W0 : World) (j : Nat) (v : Value) (W : World) : Prop :=
  Kd.R k200 200 W w.heap.size (fun _ => True) v (out ++ (insB (-1) s).take j) ∧ Chg (fun k => v0.ownBlock = some k) W0 W ∧ (v.ownBlock = v0.ownBlock ∨ ∃ b, v.ownBlock = some b ∧ W0.heap.size ≤ b)
set_option maxRecDepth 100000 in
set_option maxHeartbeats 4000000 in
theorem textedit_applyTraced.calls (A0 : Option Addr) (c0 : Nat) (l0 : List S200) (A1 : Option Addr) (c1 : Nat) (l1 : List (S137)) (r : List S200) (w : World) (hr0 : Kd.C k200 w A0 l0.length l0) (hc0 : l0.length ≤ c0) (hr1 : Kd.C k137 w A1 l1.length l1) (hc1 : l1.length ≤ c1) (h : textedit_applyTraced.f l0 l1 = some r) :
    Calls Try.prog 116 #[.slice A0 l0.length c0, .slice A1 l1.length c1] w fun e w' => ∃ v0_ : Value, e = .returned (v0_) ∧ Kd.R k200 200 w' w.heap.size (fun _ => True) v0_ r ∧ Below w.heap.size w w' := by
  unfold textedit_applyTraced.f at h
  have HB := Aside0.mk hr0
  have HCB := Aside0.mk hc0
  have HQ := Aside0.mk hr1
  have H := Aside0.mk h
  have hlen := hr1.2.1
  have hlen0 := hr0.2.1
  clear hr0 hc0 hr1 h hc1
  go_enter Try.func116, Try.ntmps116
  go_wp2
  go_loopg [5, 6, 13] l1.length (fun kq v5 v6 v13 W => ∃ (i : Nat) (off : Int), v6 = .int .i64 off ∧ v13 = .int .i64 (i : Int) ∧ kq + i = l1.length ∧ Aside0 (TrI l0 l1 r w i off v5 W))
  case atStart =>
    exact ⟨0, 0, rfl, rfl, by omega, ⟨[], H.out, Kd.R_nil _ _ _ _ _, Below.refl _ _⟩⟩
  case round =>
    obtain ⟨i, off, rfl, rfl, hi, hR⟩ := hrel
    obtain ⟨out, hrun, hO, hbel⟩ := hR.out
    obtain ⟨V, cv, hv⟩ := Kd.R_slice hO
    subst hv
    cases gk with
    | zero =>
      obtain rfl : i = l1.length := by omega
      rw [List.drop_length, trP] at hrun
      split at hrun
      · next q0 =>
        split at hrun
        · next q1 =>
          split at hrun
          · next q2 =>
            injection hrun with hrun
            subst hrun
            have HO := Aside0.mk hO
            have HBE := Aside0.mk hbel
            have HQ2 := Aside0.mk q2
            have p1 := eq_true q0
            have p2 := eq_true q1
            obtain ⟨m, hm⟩ : ∃ m : Nat, off = (m : Int) := ⟨off.toNat, by omega⟩
            subst hm
            have hsub := Kd.C_drop (m := m) (c := c0) (Kd.C_below HB.out hbel) (by omega) HCB.out
            rw [List.length_drop] at hsub
            have hcut := cut_from (P := Try.prog) 189 200 .i64 Try.underlying189 (i := Try.t200) rfl 2 rfl A0 l0.length c0 (m : Int) q0 q1
            rw [show k200.sz = 2 from rfl] at hsub
            simp only [Int.toNat_natCast] at hcut
            obtain ⟨A2, hA2⟩ : ∃ A2, (if c0 = m then A0 else A0.map (·.add (m * 2))) = A2 := ⟨_, rfl⟩
            rw [hA2] at hsub
            simp only [hA2] at hcut
            clear hA2
            have HSUB := Aside0.mk hsub
            clear hsub hO hbel q0 q1 q2 hR H
            go_wp2_with (first | ((with_reducible refine gate_builtin (b := .append) (xs := #[.tmp 41, .tmp 44]) rfl ?_); at_builtin; refine Kd.R_append_rows k200 (w0 := w) w.heap.size rfl (.tmp 41) (.tmp 44) 189 200 (.agg #[.int .u8 0, .int .i64 0]) 16 rfl Try.underlying189 info_200 rfl (by decide) (by omega) (.slice V out.length cv) out (l0.drop m) _ _ _ (fun _ => True) (fun _ => False) rfl rfl HO.out HSUB.out (fun x cs h => by rw [k200_open h]; exact k200_mkM _ _ _ x) (fun _ h => h.elim) (fun _ _ => trivial) HBE.out HBE.out.size (by have := HQ2.out; rw [Int.toNat_natCast] at this; exact this) ?_; intro v5 w5 ho hb hg hat; (have HO5 := Aside0.mk ho); (have HB5 := Aside0.mk hb); clear ho hb hg hat))
            go_ret
            exact ⟨_, rfl, HO5.out, HB5.out⟩
          · cases hrun
        · cases hrun
      · cases hrun
    | succ k1 =>
      have hlt : i < l1.length := by omega
      rw [List.drop_eq_getElem_cons hlt] at hrun
      have hx := at_T137 (Kd.C_below HQ.out hbel) (i : Int) (by omega) (by omega)
      obtain ⟨ad, hA, x0, x1, x2⟩ := hx
      have hq : rd_T137 l1 (i : Int) = l1[i] := by simp [rd_T137, List.getD_eq_getElem?_getD, hlt]
      rw [hq] at x0 x1 x2
      rw [Int.toNat_natCast] at x0 x1 x2
      obtain ⟨q, hqq⟩ : ∃ q, l1[i] = q := ⟨_, rfl⟩
      rw [hqq] at x0 x1 x2 hrun
      clear hq hqq
      rw [trP] at hrun
      split at hrun
      · next q0 =>
        split at hrun
        · next q1 =>
          split at hrun
          · next q2 =>
            split at hrun
            · next q3 =>
              have HO := Aside0.mk hO
              have HBE := Aside0.mk hbel
              have HQ3 := Aside0.mk q3
              have HRUN := Aside0.mk hrun
              have p1 := eq_true q0
              have p2 := eq_true q1
              have p3 := eq_true q2
              have p5 : (0 ≤ (i : Int)) = True := eq_true (by omega)
              have p6 : ((i : Int) < (l1.length : Int)) = True := eq_true (by omega)
              have hcut := cut_mid (P := Try.prog) 189 200 .i64 .i64 (i := Try.t200) Try.underlying189 rfl 2 rfl A0 l0.length c0 off q.f0 q0 q1 q2 HCB.out
              have hsub := Kd.C_mid (lo := off.toNat) (hi := q.f0.toNat) (c := c0) (Kd.C_below HB.out hbel) (by omega) (by omega) HCB.out
              have hml : ((l0.take q.f0.toNat).drop off.toNat).length = q.f0.toNat - off.toNat := by rw [List.length_drop, List.length_take]; omega
              rw [hml, show k200.sz = 2 from rfl] at hsub
              obtain ⟨A2, hA2⟩ : ∃ A2, (if c0 = off.toNat then A0 else A0.map (·.add (off.toNat * 2))) = A2 := ⟨_, rfl⟩
              rw [hA2] at hsub
              simp only [hA2] at hcut
              obtain ⟨mid, hmid⟩ : ∃ mid, (l0.take q.f0.toNat).drop off.toNat = mid := ⟨_, rfl⟩
              rw [hmid] at hsub
              rw [hmid] at hml
              have HRUN : Aside0 (trP l0 (l1.drop (i + 1)) q.f1 (out ++ mid ++ insB (-1) q.f2) = some r) := ⟨by rw [← hmid]; exact hrun⟩
              have HSUB := Aside0.mk hsub
              have HML := Aside0.mk hml
              clear hO hbel q3 hR H hrun hA2 hmid hsub hml q0 q1 q2
              subst hA
              go_upto_region 6 with (fail)
              have hbk := hb_new wr (.cells #[.int .i64 q.f0, .int .i64 q.f1, .string q.f2] 137)
              have hsz : (wr.alloc (.cells #[.int .i64 q.f0, .int .i64 q.f1, .string q.f2] 137)).heap.size = wr.heap.size + 1 := World.size_alloc _ _
              have hbn : Below wr.heap.size wr (wr.alloc (.cells #[.int .i64 q.f0, .int .i64 q.f1, .string q.f2] 137)) := below_alloc (Below.refl _ _) _
              have e0 : (wr.alloc (.cells #[.int .i64 q.f0, .int .i64 q.f1, .string q.f2] 137)).cell? ⟨wr.heap.size, 0, none⟩ = some (.int .i64 q.f0) := (cells_of_blk hbk 0).trans rfl
              have HBK := Aside0.mk hbk
              have HSZ := Aside0.mk hsz
              have HO1 := Aside0.mk (Kd.R_below HO.out hbn)
              have HSUB1 := Aside0.mk (Kd.C_below HSUB.out hbn)
              have HBE1 := Aside0.mk (HBE.out.trans (hbn.mono HBE.out.size))
              have HVW : Aside0 (∀ k, (Value.slice V out.length cv).ownBlock = some k → k < wr.heap.size) := ⟨Kd.R_lt HO.out⟩
              clear hbk hsz hbn x0 x1 x2 HO HSUB HBE
              generalize wr.alloc (.cells #[.int .i64 q.f0, .int .i64 q.f1, .string q.f2] 137) = W1 at *
              go_upto_region 7 with (first | ((with_reducible refine gate_builtin (b := .append) (xs := #[.tmp 17, .tmp 22]) rfl ?_); at_builtin; refine Kd.R_append_rows k200 (w0 := W1) w.heap.size rfl (.tmp 17) (.tmp 22) 189 200 (.agg #[.int .u8 0, .int .i64 0]) 16 rfl Try.underlying189 info_200 rfl (by decide) (by omega) (.slice V out.length cv) out mid _ _ _ (fun _ => True) (fun _ => False) rfl rfl HO1.out HSUB1.out (fun x cs h => by rw [k200_open h]; exact k200_mkM _ _ _ x) (fun _ h => h.elim) (fun _ _ => trivial) (Below.refl _ _) HBE1.out.size (by have := HQ3.out; omega) ?_; intro v5 w5 ho hb hg hat; (obtain ⟨V5, c5, hv5⟩ := Kd.R_slice ho); subst hv5; (have HO5 := Aside0.mk ho); (have HB5 := Aside0.mk hb); (have HG5 := Aside0.mk hg); (have HAT := Aside0.mk hat); clear ho hb hg hat))
              have hbk5 := (HG5.out.block wr.heap.size (by rw [HSZ.out]; omega) (fun e => by have := HVW.out _ e.symm; omega)).trans HBK.out
              have e2 : w5.cell? ⟨wr.heap.size, 2, none⟩ = some (.string q.f2) := (cells_of_blk hbk5 2).trans rfl
              obtain ⟨cap, Wb, hconv, hcb, hcs, hcc⟩ := bytes_conv w5 q.f2
              have HBK5 := Aside0.mk hbk5
              have HCB := Aside0.mk hcb
              have HCS := Aside0.mk hcs
              have HCC := Aside0.mk hcc
              clear hbk5 hcb hcs hcc
              have hl5 : (out ++ mid).length = out.length + mid.length := List.length_append
              rw [hl5] at HO5 HAT
              have hb5s := HB5.out.size
              have hsz2 : q.f2.size ≤ 140737488355328 := by have := HQ3.out; omega
              have HBB : Aside0 (Below w.heap.size w Wb) := ⟨HBE1.out.trans (HB5.out.trans (HCB.out.mono (by have := HBE1.out.size; omega)))⟩
              have HLT5 := Aside0.mk (Kd.R_lt HO5.out)
              have HNE : Aside0 ((Value.slice V5 (out.length + mid.length) c5).ownBlock ≠ some wr.heap.size) := ⟨fun h => by
                rcases HAT.out with h' | ⟨b, h', hb⟩
                · rw [h'] at h; have := HVW.out _ h; omega
                · rw [h'] at h; injection h with h; have := HSZ.out; omega⟩
              have HBKB : Aside0 (Wb.heap[wr.heap.size]? = some (.cells #[.int .i64 q.f0, .int .i64 q.f1, .string q.f2] 137 (0, 0))) := ⟨(HCB.out.block _ (lt_of_blk HBK5.out)).trans HBK5.out⟩
              have HOB := Aside0.mk (Kd.R_below HO5.out HCB.out)
              clear hl5
              go_upto_region 8 with (fail)
              go_loopg [5, 28] q.f2.size (fun kq2 v5 v28 W => ∃ (j : Nat), v28 = .int .i64 (j : Int) ∧ kq2 + j = q.f2.size ∧ Aside0 (InI q.f2 (out ++ mid) w (.slice V5 (out.length + mid.length) c5) Wb j v5 W))
              case atStart =>
                exact ⟨0, rfl, by omega, ⟨by rw [List.take_zero, List.append_nil]; exact HOB.out, Chg.refl _ _, .inl rfl⟩⟩
              case round =>
                obtain ⟨j, rfl, hj, hR2⟩ := hrel
                obtain ⟨hR3, hch, hat2⟩ := hR2.out
                cases gk with
                | zero =>
                  obtain rfl : j = q.f2.size := by omega
                  have hbk := hch.at HBKB.out HNE.out
                  have e1 : _ = some (Value.int .i64 q.f1) := (cells_of_blk hbk 1).trans rfl
                  rw [List.take_of_length_le (by rw [insB_length]; exact Nat.le_refl _)] at hR3
                  have HF := Aside0.mk hR3
                  have HFB := Aside0.mk (HBB.out.trans (hch.to_below (fun k _ e => Kd.R_base HOB.out k e) HBB.out.size))
                  clear hR2 hR3 hch hat2 hbk hj e0 e2 hconv hcut
                  go_wp2
                  go_roundg k1
                  case measure => omega
                  case rel =>
                    exact ⟨i + 1, q.f1, rfl, by first | rfl | (congr 1; unfold wrap64; omega), by omega, ⟨_, HRUN.out, HF.out, HFB.out⟩⟩
                | succ k2 =>
                  have hjl : j < q.f2.size := by omega
                  obtain ⟨x, hxx⟩ : ∃ x, q.f2.data.toList.getD j 0 = x := ⟨_, rfl⟩
                  have y0 : wr.cell? ⟨w5.heap.size, j, none⟩ = some (.int .u8 x.toNat) := by
                    have h := hch.block w5.heap.size (by rw [HCS.out]; omega) (fun e => by have := HLT5.out _ e; omega)
                    have e : wr.cell? ⟨w5.heap.size, j, none⟩ = Wb.cell? ⟨w5.heap.size, j, none⟩ := by unfold World.cell?; rw [h]
                    rw [e, HCC.out j hjl, hxx]
                  obtain ⟨V6, c6, hv6⟩ := Kd.R_slice hR3
                  have hl6 : (out ++ mid ++ (insB (-1) q.f2).take j).length = out.length + mid.length + j := by
                    rw [List.length_append, List.length_append, List.length_take, insB_length]; omega
                  rw [hl6] at hv6
                  subst hv6
                  have htk := insB_take (-1) q.f2 hjl
                  rw [hxx] at htk
                  obtain ⟨xs, hxs⟩ : ∃ xs, out ++ mid ++ (insB (-1) q.f2).take j = xs := ⟨_, rfl⟩
                  rw [hxs] at hR3 hl6
                  have HTK : Aside0 (out ++ mid ++ (insB (-1) q.f2).take (j + 1) = xs ++ [⟨(x.toNat : Int), -1⟩]) := ⟨by rw [htk, ← hxs, List.append_assoc (out ++ mid)]⟩
                  have HR3 := Aside0.mk hR3
                  have HCH := Aside0.mk hch
                  have HAT2 := Aside0.mk hat2
                  have HL6 := Aside0.mk hl6
                  have HWB : Aside0 (w.heap.size ≤ wr.heap.size) := ⟨Nat.le_trans HBB.out.size hch.size⟩
                  have p7 : (0 ≤ (j : Int)) = True := eq_true (by omega)
                  have p8 : ((j : Int) < (q.f2.size : Int)) = True := eq_true (by omega)
                  clear hR2 hR3 hch hat2 hl6 htk hxs hxx e0 e2 hconv hcut
                  go_wp2_with (first | ((with_reducible refine gate_builtin (b := .append) (xs := #[.tmp 32, .tmp 35]) rfl ?_); at_builtin; refine Kd.R_append k200 (w0 := wr) w.heap.size rfl (.tmp 32) (.tmp 35) 189 200 (.agg #[.int .u8 0, .int .i64 0]) 16 rfl Try.underlying189 info_200 rfl (by decide) (by omega) (.slice V6 (out.length + mid.length + j) c6) xs ⟨(x.toNat : Int), -1⟩ [.int .u8 x.toNat, .int .i64 (-1)] (fun _ => True) (fun _ => False) rfl rfl (k200_mkM _ _ _ ⟨(x.toNat : Int), -1⟩) (fun _ h => h.elim) (fun _ _ => trivial) HR3.out (Below.refl _ _) HWB.out (by have := HQ3.out; have := HL6.out; have := HML.out; omega) ?_; intro v7 w7 ho hb hg hat; (have HO7 := Aside0.mk ho); (have HB7 := Aside0.mk hb); (have HG7 := Aside0.mk hg); (have HAT7 := Aside0.mk hat); clear ho hb hg hat y0))
                  go_roundg k2
                  case measure => omega
                  case rel =>
                    refine ⟨j + 1, by first | rfl | (congr 1; unfold wrap64; omega), by omega, ⟨?_, ?_, ?_⟩⟩
                    · rw [HTK.out]; exact HO7.out
                    · refine HCH.out.trans (Chg.of_grown HG7.out (S := fun k => (Value.slice V6 (out.length + mid.length + j) c6).ownBlock = some k) (fun k e => e)) (fun k hk e => ?_)
                      rcases HAT2.out with h | ⟨b, h, hb⟩
                      · rw [← h]; exact e
                      · rw [h] at e; injection e with e; omega
                    · rcases HAT7.out with h | ⟨b, h, hb⟩
                      · rw [h]; exact HAT2.out
                      · exact .inr ⟨b, h, Nat.le_trans HCH.out.size hb⟩
            · cases hrun
          · cases hrun
        · cases hrun
      · cases hrun
end

/-! ### textedit_trace: function 117 -/
def textedit_trace.l0 : Nat → ByteArray → List (S200) → Int → Int → Option ((List (S200)))
  | 0, _, _, _, _ => none
  | k + 1, x0, x3, x9, x10 => if x10 < x9 then (if 0 ≤ x10 then (if x10 < (x0.size : Int) then (if x10 < (x3.length : Int) then (textedit_trace.l0 k x0 (x3.set (x10 : Int).toNat (⟨bt x0 x10, x10⟩ : S200)) x9 (wrap64 (x10 + 1))) else (none)) else (none)) else (none)) else (some x3)
def textedit_trace.f (k : Nat) (a0 : ByteArray) : Option ((List (S200))) := if 0 ≤ (a0.size : Int) then (if ((a0.size : Int) : Int).toNat ≤ 17592186044416 then ((some (List.replicate ((a0.size : Int) : Int).toNat z200 : List (S200))).bind fun y111 => (textedit_trace.l0 k a0 y111 (y111.length : Int) 0)) else (none)) else (none)
theorem textedit_trace.mono_l : ∀ k, (∀ y0 y1 y2 y3, LeO (textedit_trace.l0 k y0 y1 y2 y3) (textedit_trace.l0 (k + 1) y0 y1 y2 y3))
  | 0 => fun _ _ _ _ r h => by simp [textedit_trace.l0] at h
  | k + 1 => by
    have ih0 := textedit_trace.mono_l k
    · intro y0 y1 y2 y3
      unfold textedit_trace.l0
      repeat' first
      | (with_reducible exact ih0 _ _ _ _)
      | (with_reducible exact LeO.refl _)
      | (with_reducible exact LeO.none _)
      | (with_reducible refine LeO.ite ?_ ?_)
      | (with_reducible refine LeO.bind ?_ (fun _ => ?_))
      | exact ih0 _ _ _ _
      | exact LeO.none _
      | refine LeO.ite ?_ ?_
      | refine LeO.bind ?_ (fun _ => ?_)
theorem textedit_trace.mono : ∀ a0 k, LeO (textedit_trace.f k a0) (textedit_trace.f (k + 1) a0) := by
  intro a0 k
  have ih0 := textedit_trace.mono_l k
  unfold textedit_trace.f
  repeat' first
      | (with_reducible exact ih0 _ _ _ _)
      | (with_reducible exact LeO.refl _)
      | (with_reducible exact LeO.none _)
      | (with_reducible refine LeO.ite ?_ ?_)
      | (with_reducible refine LeO.bind ?_ (fun _ => ?_))
      | exact ih0 _ _ _ _
      | exact LeO.none _
      | refine LeO.ite ?_ ?_
      | refine LeO.bind ?_ (fun _ => ?_)
set_option maxHeartbeats 8000000 in
set_option maxRecDepth 100000 in
theorem textedit_trace.calls (k : Nat) (a0 : ByteArray) (r : List (S200)) (w : World) (h : textedit_trace.f k a0 = some r) :
    Calls Try.prog 117 #[.string a0] w fun e w' => ∃ v0_ : Value, e = .returned (v0_) ∧ Kd.R k200 200 w' w.heap.size (fun _ => True) v0_ r ∧ Below w.heap.size w w' := by
  have hu200 := Try.underlying200
  have HB := Aside0.mk (Below.refl w.heap.size w)
  have H : (if 0 ≤ (a0.size : Int) then (if ((a0.size : Int) : Int).toNat ≤ 17592186044416 then ((some (List.replicate ((a0.size : Int) : Int).toNat z200 : List (S200))).bind fun y111 => (textedit_trace.l0 k a0 y111 (y111.length : Int) 0)) else (none)) else (none)) = some r := h
  clear h
  by_cases c2 : 0 ≤ (a0.size : Int)
  · rw [if_pos c2] at H
    have c2b0 := eq_true c2
    have c2b1 : decide (0 ≤ (a0.size : Int)) = true := decide_eq_true c2
    clear c2
    by_cases c3 : ((a0.size : Int) : Int).toNat ≤ 17592186044416
    · rw [if_pos c3] at H
      have c3b0 := eq_true c3
      have c3b1 : decide (((a0.size : Int) : Int).toNat ≤ 17592186044416) = true := decide_eq_true c3
      clear c3
      obtain ⟨y111, hy111⟩ : ∃ y_ : List (S200), y_ = (List.replicate ((a0.size : Int) : Int).toNat z200) := ⟨_, rfl⟩
      replace H : (textedit_trace.l0 k a0 y111 (y111.length : Int) 0) = some r := by first | (rw [hy111]; with_reducible exact H) | (have H2_ := (Option.bind_some _ _).symm.trans H; rw [hy111]; with_reducible exact H2_) | (have H2_ := (Option.bind_some _ _).symm.trans H; with_reducible exact H2_) | with_reducible exact H | (rw [hy111]; exact H) | exact H
      have Ny111 := Aside0.mk hy111
      clear hy111
      have H' := Aside0.mk H
      clear H
      go_enter Try.func117, Try.ntmps117
      go_wp2_with (first | ((with_reducible refine gate_dst (N := 7) rfl ?_); refine Kd.R_make k200 _ 200 rfl (N := 7) rfl 189 _ _ rfl (a0.size : Int) rfl rfl Try.underlying189 (.agg #[(.int .u8 0), (.int .i64 0)]) 16 info200 rfl (by decide) (by omega) z200 (ok := fun _ => True) (okp := fun _ => True) (k200_mkM _ _ _ z200 ) (fun _ hk => hk) trivial (of_decide_eq_true (by first | (with_reducible assumption) | assumption)) (Nat.le_trans (Nat.mul_le_mul_right _ (of_decide_eq_true (by first | (with_reducible assumption) | assumption) : (a0.size : Int).toNat ≤ 17592186044416)) (by omega)) (Below.refl _ _) (Nat.le_refl _) ?_; intro v112 w4 ho5 hb hg_ hnew_; clear hg_ hnew_; (first | rw [← Ny111.out] at ho5 | (simp only [Int.reduceToNat] at ho5; rw [← Ny111.out] at ho5)); have n0_ := Aside0.mk (Kd.R_lower ho5 (below_size (by repeat (first | (with_reducible first | exact HB.out | apply below_alloc | apply pw_below_drewN | apply below_drew1) | exact HB.out)))); have n1_ := Aside0.mk (below_step (by repeat (first | (with_reducible first | exact HB.out | apply below_alloc | apply pw_below_drewN | apply below_drew1) | exact HB.out)) hb); clear HB; have HO113 := n0_; have HB := n1_; clear n0_ n1_; clear hb ho5; obtain ⟨Ao6, co6, eo6⟩ := Kd.R_slice HO113.out; subst eo6))
      go_loopg [10] k (fun kq v10 w' => ∃ (x3_1 : List (S200)) (x10_1 : Int), v10 = .int .i64 x10_1 ∧ Aside0 (textedit_trace.l0 kq a0 x3_1 (y111.length : Int) x10_1 = some r) ∧ Aside0 (kq ≤ k) ∧ Aside0 (Kd.R k200 200 w' w.heap.size (fun _ => True) (.slice Ao6 y111.length co6) x3_1) ∧ Aside0 (Below w.heap.size w w'))
      case atStart => exact ⟨(y111), (0), (by first | rfl | (simp; done) | (simp [*]; done) | (simp [isEmpty_bne]; done)), H', ⟨Nat.le_refl _⟩, ⟨by (with_reducible repeat (first | apply Kd.R_alloc | apply Kd.R_drewN | apply Kd.R_drew)); exact HO113.out⟩, ⟨by repeat (first | (with_reducible first | exact HB.out | apply below_alloc | apply pw_below_drewN | apply below_drew1) | exact HB.out)⟩⟩
      case round =>
        clear H'
        try clear c1
        try clear c2
        try clear c2b0
        try clear c2b1
        try clear p2
        try clear c3
        try clear c3b0
        try clear c3b1
        obtain ⟨x3_1, x10_1, rfl, HA, HK1, HO_3, HB⟩ := hrel
        have hl3_1 := (Kd.R_reads' HO_3.out).1
        rw [hl3_1] at HO_3
        (try simp only [hl3_1])
        cases gk with
        | zero => exact absurd HA.out (by simp [textedit_trace.l0])
        | succ k1 =>
          have H := HA.out
          clear HA
          simp only [textedit_trace.l0] at H
          by_cases c7 : x10_1 < (y111.length : Int)
          · rw [if_pos c7] at H
            have c7b0 : decide (x10_1 < (y111.length : Int)) = true := decide_eq_true c7
            try (have c7b0qhl3_1 := c7b0; rw [hl3_1] at c7b0qhl3_1)
            clear c7
            by_cases c8 : 0 ≤ x10_1
            · rw [if_pos c8] at H
              have c8b0 : decide (0 ≤ x10_1) = true := decide_eq_true c8
              clear c8
              by_cases c9 : x10_1 < (a0.size : Int)
              · rw [if_pos c9] at H
                have c9b0 : decide (x10_1 < (a0.size : Int)) = true := decide_eq_true c9
                clear c9
                by_cases c11 : x10_1 < (x3_1.length : Int)
                · rw [if_pos c11] at H
                  have c11b0 : decide (x10_1 < (x3_1.length : Int)) = true := decide_eq_true c11
                  try (have c11b0qhl3_1 := c11b0; rw [hl3_1] at c11b0qhl3_1)
                  clear c11
                  obtain ⟨y114, hy114⟩ : ∃ y_ : List (S200), y_ = (x3_1.set (x10_1 : Int).toNat (⟨bt a0 x10_1, x10_1⟩ : S200)) := ⟨_, rfl⟩
                  replace H : (textedit_trace.l0 k1 a0 y114 (y111.length : Int) (wrap64 (x10_1 + 1))) = some r := by first | (rw [hy114]; with_reducible exact H) | (have H2_ := (Option.bind_some _ _).symm.trans H; rw [hy114]; with_reducible exact H2_) | (have H2_ := (Option.bind_some _ _).symm.trans H; with_reducible exact H2_) | with_reducible exact H | (rw [hy114]; exact H) | exact H
                  have Ny114 := Aside0.mk hy114
                  clear hy114
                  have H' := Aside0.mk H
                  clear H
                  have p10 : 0 ≤ (x10_1 : Int) := of_decide_eq_true (by first | (with_reducible assumption) | assumption)
                  have q10 : x10_1 < (a0.size : Int) := of_decide_eq_true (by first | (with_reducible assumption) | assumption)
                  have hx10 := bt_at a0 x10_1
                  replace p10 := eq_true p10
                  replace q10 := eq_true q10
                  have p12 : 0 ≤ (x10_1 : Int) := of_decide_eq_true (by first | (with_reducible assumption) | assumption)
                  have q12 : (x10_1 : Int) < ((x3_1.length : Int) : Int) := of_decide_eq_true (by first | (with_reducible assumption) | assumption)
                  obtain ⟨go12, co12, eo12, gb12, gl12, cl12, HG12⟩ := Kd.R_form HO_3.out (by omega)
                  (first | cases eo12 | (injection eo12 with ea_ en_ ec_; (first | subst ea_ | (injection ea_ with ea_; subst ea_)); subst ec_; clear en_))
                  have GB12 := Aside0.mk gb12
                  have GG12 := Aside0.mk HG12
                  clear gb12 gl12 HG12
                  obtain ⟨ce12, hcl12, hM12, hcc12, hfr12⟩ := Kd.R_elem HO_3.out z200 (x10_1 : Int) p12 q12
                  obtain rfl := k200_openM hM12
                  have hx12_0 : wr.cell? ⟨go12, (x10_1 : Int).toNat * 2, none⟩ = some (.int .u8 ((rd_T200 x3_1 x10_1).f0)) := hcc12 0 _ rfl
                  have hx12_1 : wr.cell? ⟨go12, (x10_1 : Int).toNat * 2 + 1, none⟩ = some (.int .i64 ((rd_T200 x3_1 x10_1).f1)) := hcc12 1 _ rfl
                  have hf12_0 : wr.frozen? ⟨go12, (x10_1 : Int).toNat * 2, none⟩ = false := hfr12 0
                  have hf12_1 : wr.frozen? ⟨go12, (x10_1 : Int).toNat * 2 + 1, none⟩ = false := hfr12 1
                  clear hcl12 hcc12 hfr12 hM12
                  replace p12 := eq_true p12
                  replace q12 := eq_true q12
                  have HX13 := Aside0.mk (show Kd.R k200 200 wr w.heap.size (fun _ => True) (.slice (some ⟨go12, 0, none⟩) x3_1.length co6) x3_1 from (by (with_reducible repeat (first | apply Kd.R_alloc | apply Kd.R_drewN | apply Kd.R_drew)); exact HO_3.out))
                  obtain ⟨ce13, hcl13, hM13, hcc13, hfr13⟩ := Kd.R_elem HX13.out z200 (x10_1 : Int) (of_decide_eq_true (by first | (with_reducible assumption) | assumption)) (by have h_ : (x10_1 : Int) < ((x3_1.length : Int) : Int) := of_decide_eq_true (by first | (with_reducible assumption) | assumption); first | exact h_ | (have e_ := (Kd.R_reads' HO_3.out).1; omega) | simpa using h_)
                  obtain rfl := k200_openM hM13
                  have HP13 := Kd.R_seg HX13.out (x10_1 : Int) (of_decide_eq_true (by first | (with_reducible assumption) | assumption)) (by have h_ : (x10_1 : Int) < ((x3_1.length : Int) : Int) := of_decide_eq_true (by first | (with_reducible assumption) | assumption); first | exact h_ | (have e_ := (Kd.R_reads' HO_3.out).1; omega) | simpa using h_) (seg := [.int .u8 (bt a0 x10_1), .int .i64 x10_1]) (j := 0) hcl13 hcc13 (show 2 ≤ 2 from by decide) (x' := (⟨bt a0 x10_1, x10_1⟩ : S200)) (k200_mkM _ _ _ (⟨bt a0 x10_1, x10_1⟩ : S200) ) (fun _ hk => hk)
                  have hx13_0 := hcc13 0 _ rfl
                  (try simp only [show (k200).sz = 2 from rfl, Nat.mul_one, Nat.add_zero] at hx13_0)
                  have hf13_0 := hfr13 0
                  (try simp only [show (k200).sz = 2 from rfl, Nat.mul_one, Nat.add_zero] at hf13_0)
                  have hx13_1 := hcc13 1 _ rfl
                  (try simp only [show (k200).sz = 2 from rfl, Nat.mul_one, Nat.add_zero] at hx13_1)
                  have hf13_1 := hfr13 1
                  (try simp only [show (k200).sz = 2 from rfl, Nat.mul_one, Nat.add_zero] at hf13_1)
                  clear hcl13 hcc13 hfr13 hM13
                  go_wp2_with (first | ((with_reducible refine gate_store (t := 200) (p := 20) rfl ?_); refine store_event (t := 200) (p := 20) (v := ?vo_w14) (w1 := ((wr.setCell ⟨go12, (x10_1 : Int).toNat * 2, none⟩ (.int .u8 (bt a0 x10_1))).setCell ⟨go12, (x10_1 : Int).toNat * 2 + 1, none⟩ (.int .i64 x10_1))) ?hg ?ho ?hn ?hr ?_; (case ho => rfl); (case hg => rfl); (case hn => rfl); (case hr => first | (go_simp; done) | (go_simp; rfl)); intro w14 hw; have hg : wr.grownBy w14 (some go12) := (by rw [hw]; exact HP13.2); have hp_ : Kd.R k200 200 w14 w.heap.size (fun _ => True) (.slice (some ⟨go12, 0, none⟩) x3_1.length co6) y114 := (by rw [hw, Ny114.out]; exact HP13.1); clear HP13; have n0_ := Aside0.mk (hp_); have n1_ := Aside0.mk ((by rw [hw]; exact below_set (below_set (HB.out) GB12.out) GB12.out : Below w.heap.size w w14)); clear HO_3; clear HB; have HO_3 := n0_; have HB := n1_; clear n0_ n1_; clear hg hw hp_))
                  (try simp only [← hl3_1])
                  go_roundg k1
                  case measure => have := HK1.out; omega
                  case rel => exact ⟨(y114), (wrap64 (x10_1 + 1)), (by first | rfl | (simp; done) | (simp [*]; done) | (simp [isEmpty_bne]; done)), H', ⟨by have := HK1.out; omega⟩, ⟨by (try simp only [hl3_1]); (with_reducible repeat (first | apply Kd.R_alloc | apply Kd.R_drewN | apply Kd.R_drew)); exact HO_3.out⟩, ⟨by repeat (first | (with_reducible first | exact HB.out | apply below_alloc | apply pw_below_drewN | apply below_drew1) | exact HB.out)⟩⟩
                · rw [if_neg c11] at H
                  exact absurd H (by simp)
              · rw [if_neg c9] at H
                exact absurd H (by simp)
            · rw [if_neg c8] at H
              exact absurd H (by simp)
          · rw [if_neg c7] at H
            have c7b0 : decide (x10_1 < (y111.length : Int)) = false := decide_eq_false c7
            try (have c7b0qhl3_1 := c7b0; rw [hl3_1] at c7b0qhl3_1)
            clear c7
            obtain rfl := Option.some.inj H
            go_wp2
            go_ret
            exact ⟨_, by first | rfl | (simp [errW_none, errW_some] <;> rfl) | (simp [*, errW_none, errW_some] <;> rfl), by (with_reducible repeat (first | apply Kd.R_alloc | apply Kd.R_drewN | apply Kd.R_drew)); exact HO_3.out, by repeat (first | (with_reducible first | exact HB.out | apply below_alloc | apply pw_below_drewN | apply below_drew1) | exact HB.out)⟩
    · rw [if_neg c3] at H
      exact absurd H (by simp)
  · rw [if_neg c2] at H
    exact absurd H (by simp)

end Go.Proofs.Ytbfedkmiekbcmaa.QTexteditTransformEqualsReference
