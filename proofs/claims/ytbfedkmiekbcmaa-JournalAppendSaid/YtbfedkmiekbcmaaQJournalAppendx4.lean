-- Written by gen.py (this repo's wip/), which runs the kit's print.py with more arms. Lean checks it.
import Derived.Test.YtbfedkmiekbcmaaQJournalAppendx0
import Derived.Test.YtbfedkmiekbcmaaQJournalAppendx1
import Derived.Test.YtbfedkmiekbcmaaQJournalAppendx2
import Derived.Test.YtbfedkmiekbcmaaQJournalAppendx3
namespace Go.Proofs.Ytbfedkmiekbcmaa.QJournalAppend
open Go.RowKit Go.Proofs.YtbfedkmiekbcmaaW.PrintWords Go.Proofs.YtbfedkmiekbcmaaW.PrintLast Go.Proofs.YtbfedkmiekbcmaaW.PrintMore
attribute [local go_sem] max2_int min2_int max_two min_two max_three min_three max_four min_four   -- for this text's walks alone
set_option linter.unusedVariables false
set_option linter.unusedSimpArgs false

private theorem isEmpty_bne {α : Type} [BEq α] (l : List α) : (l != []) = !l.isEmpty := by cases l <;> rfl

attribute [local go_sem high] eqA67
/-! ### journal_scan: function 130 -/
def journal_scan.l0 : Nat → ByteArray → List (S67) → Int → Option ((List (S67)) × Int × Int)
  | 0, _, _, _ => none
  | k + 1, x0, x2, x3 => if 0 ≤ x3 then (if x3 ≤ (x0.size : Int) then ((journal_next.f k (x0.extract (x3 : Int).toNat x0.size)).bind fun bt129 => (if bt129.2.2.2.1 = 0 then (some (x2, x3, bt129.2.2.2.2)) else (if x2.length < 3518437208883 then (journal_scan.l0 k x0 (x2 ++ [(⟨bt129.1, bt129.2.1, bt129.2.2.1⟩ : S67)]) (wrap64 (x3 + bt129.2.2.2.1))) else (none)))) else (none)) else (none)
def journal_scan.f (k : Nat) (a0 : ByteArray) : Option ((List (S67)) × Int × Int) := journal_scan.l0 k a0 ([] : List (S67)) 0
theorem journal_scan.mono_l : ∀ k, (∀ y0 y1 y2, LeO (journal_scan.l0 k y0 y1 y2) (journal_scan.l0 (k + 1) y0 y1 y2))
  | 0 => fun _ _ _ r h => by simp [journal_scan.l0] at h
  | k + 1 => by
    have ih0 := journal_scan.mono_l k
    · intro y0 y1 y2
      unfold journal_scan.l0
      repeat' first
      | (with_reducible exact ih0 _ _ _)
      | (with_reducible exact journal_next.mono _ _)
      | (with_reducible exact LeO.refl _)
      | (with_reducible exact LeO.none _)
      | (with_reducible refine LeO.ite ?_ ?_)
      | (with_reducible refine LeO.bind ?_ (fun _ => ?_))
      | exact ih0 _ _ _
      | exact journal_next.mono _ _
      | exact LeO.none _
      | refine LeO.ite ?_ ?_
      | refine LeO.bind ?_ (fun _ => ?_)
theorem journal_scan.mono : ∀ a0 k, LeO (journal_scan.f k a0) (journal_scan.f (k + 1) a0) := by
  intro a0 k
  have ih0 := journal_scan.mono_l k
  unfold journal_scan.f
  repeat' first
      | (with_reducible exact ih0 _ _ _)
      | (with_reducible exact journal_next.mono _ _)
      | (with_reducible exact LeO.refl _)
      | (with_reducible exact LeO.none _)
      | (with_reducible refine LeO.ite ?_ ?_)
      | (with_reducible refine LeO.bind ?_ (fun _ => ?_))
      | exact ih0 _ _ _
      | exact journal_next.mono _ _
      | exact LeO.none _
      | refine LeO.ite ?_ ?_
      | refine LeO.bind ?_ (fun _ => ?_)
set_option maxHeartbeats 8000000 in
set_option maxRecDepth 100000 in
theorem journal_scan.calls (k : Nat) (a0 : ByteArray) (r1 : List (S67)) (r2 : Int) (r3 : Int) (w : World) (h : journal_scan.f k a0 = some (r1, r2, r3)) :
    Calls Try.prog 130 #[.string a0] w fun e w' => ∃ v0_ : Value, e = .returned (.tuple #[v0_, .int .i64 r2, .int .i64 r3]) ∧ Kd.R k67 67 w' w.heap.size (fun _ => True) v0_ r1 ∧ Below w.heap.size w w' := by
  have hu67 := Try.underlying67
  have HB := Aside0.mk (Below.refl w.heap.size w)
  have H : (journal_scan.l0 k a0 ([] : List (S67)) 0) = some (r1, r2, r3) := h
  clear h
  have H' := Aside0.mk H
  clear H
  go_enter Try.func130, Try.ntmps130
  go_wp2
  go_loopg [2, 3] k (fun kq v2 v3 w' => ∃ (x2_1 : List (S67)) (x3_1 : Int), v3 = .int .i64 x3_1 ∧ Aside0 (journal_scan.l0 kq a0 x2_1 x3_1 = some (r1, r2, r3)) ∧ Aside0 (kq ≤ k) ∧ Aside0 (Kd.R k67 67 w' w.heap.size (fun _ => True) v2 x2_1) ∧ Aside0 (Below w.heap.size w w'))
  case atStart => exact ⟨(([] : List (S67))), (0), (by first | rfl | (simp; done) | (simp [*]; done) | (simp [isEmpty_bne]; done)), H', ⟨Nat.le_refl _⟩, ⟨by first | exact Kd.R_nil _ _ _ _ _ | exact Kd.N_nil _ _ _ _ _ | exact Kd.V_nil _ _ _ _ _ | exact Kd.Q_nil _ _ _ _ _ | exact Kd.S_nil _ _ _ _ _⟩, ⟨by repeat (first | (with_reducible first | exact HB.out | apply below_alloc | apply pw_below_drewN | apply below_drew1) | exact HB.out)⟩⟩
  case round =>
    clear H'
    try clear c1
    obtain ⟨x2_1, x3_1, rfl, HA, HK1, HO_2, HB⟩ := hrel
    cases gk with
    | zero => exact absurd HA.out (by simp [journal_scan.l0])
    | succ k1 =>
      have H := HA.out
      clear HA
      simp only [journal_scan.l0] at H
      by_cases c2 : 0 ≤ x3_1
      · rw [if_pos c2] at H
        have c2b0 := eq_true c2
        have c2b1 : decide (0 ≤ x3_1) = true := decide_eq_true c2
        clear c2
        by_cases c3 : x3_1 ≤ (a0.size : Int)
        · rw [if_pos c3] at H
          have c3b0 := eq_true c3
          have c3b1 : decide (x3_1 ≤ (a0.size : Int)) = true := decide_eq_true c3
          clear c3
          replace H := Option.bind_eq_some_iff.mp H
          obtain ⟨⟨t129, t130, t131, t132, t133⟩, A40, H⟩ := H
          replace H : (if t132 = 0 then (some (x2_1, x3_1, t133)) else (if x2_1.length < 3518437208883 then (journal_scan.l0 k1 a0 (x2_1 ++ [(⟨t129, t130, t131⟩ : S67)]) (wrap64 (x3_1 + t132))) else (none))) = some (r1, r2, r3) := H
          have A4 := Aside0.mk A40
          clear A40
          by_cases c5 : t132 = 0
          · rw [if_pos c5] at H
            have c5b0 : (t132 == 0) = true := beq_iff_eq.mpr c5
            have c5b1 : (t132 != 0) = false := bne_eq_false_iff_eq.mpr c5
            clear c5
            simp only [Option.some.injEq, Prod.mk.injEq] at H
            obtain ⟨rfl, rfl, rfl⟩ := H
            go_wp2_with (first | ((with_reducible refine gate_callee (f := 145) rfl ?_); refine goesL_ (some 12) rfl rfl Try.func145 (by kernel_rfl) rfl #[.string (a0.extract (x3_1 : Int).toNat a0.size)] rfl (by (try simp only [List.map_toArray, List.map_cons, List.map_nil]); first | done | rfl | (simp only [List.length_drop, List.length_take]; rfl)) ?_; (with_reducible refine (journal_next.calls k1 (a0.extract (x3_1 : Int).toNat a0.size) t129 t130 t131 t132 t133 _ A4.out).mono ?_); rintro e w6 ⟨rfl, hb⟩; refine ⟨_, rfl, ?_⟩; have n0_ := Aside0.mk (Kd.R_below (by (with_reducible repeat (first | apply Kd.R_alloc | apply Kd.R_drewN | apply Kd.R_drew)); exact HO_2.out) hb); have n1_ := Aside0.mk (below_step (by repeat (first | (with_reducible first | exact HB.out | apply below_alloc | apply pw_below_drewN | apply below_drew1) | exact HB.out)) hb); clear HO_2; clear HB; have HO_2 := n0_; have HB := n1_; clear n0_ n1_; (try clear hb); (try clear hb2); (try clear hk); (try clear hi)) | ((with_reducible refine gate_dst (N := 5) rfl ?_); refine box_event ?hg (N := 5) ?hd (cs := #[.string (⟨#[]⟩ : ByteArray), .string (⟨#[]⟩ : ByteArray), .bool false]) (t := 67) ?hr ?_; (case hd => rfl); (case hg => rfl); (case hr => first | (go_simp; done) | (go_simp; rfl)); intro gb134 hg w7 hbox hb; have n0_ := Aside0.mk (Kd.R_below (Kd.R_elderB (by (with_reducible repeat (first | apply Kd.R_alloc | apply Kd.R_drewN | apply Kd.R_drew)); exact HO_2.out) gb134 (Nat.le_of_eq hg.symm)) hb); have n1_ := Aside0.mk (below_step (by repeat (first | (with_reducible first | exact HB.out | apply below_alloc | apply pw_below_drewN | apply below_drew1) | exact HB.out)) hb); have n2_ := Aside0.mk (hbox); have n3_ := Aside0.mk ((by rw [hg]; exact (below_size (by repeat (first | (with_reducible first | exact HB.out | apply below_alloc | apply pw_below_drewN | apply below_drew1) | exact HB.out))) : w.heap.size ≤ gb134)); have n4_ := Aside0.mk ((by rw [hg]; exact (below_size (by repeat (first | (with_reducible first | exact HB.out | apply below_alloc | apply pw_below_drewN | apply below_drew1) | exact HB.out))) : w.heap.size ≤ gb134)); clear HO_2; clear HB; have HO_2 := n0_; have HB := n1_; have BK134 := n2_; have GW134 := n3_; have GE134 := n4_; clear n0_ n1_ n2_ n3_ n4_; clear hb hbox hg; have hcz8_0 : w7.cell? ⟨gb134, 0, none⟩ = some (.string (⟨#[]⟩ : ByteArray)) := (blk_cell BK134.out 0).trans rfl; have hcz8_1 : w7.cell? ⟨gb134, 1, none⟩ = some (.string (⟨#[]⟩ : ByteArray)) := (blk_cell BK134.out 1).trans rfl; have hcz8_2 : w7.cell? ⟨gb134, 2, none⟩ = some (.bool false) := (blk_cell BK134.out 2).trans rfl; have hfz8_0 := blk_frozen BK134.out 0; have hfz8_1 := blk_frozen BK134.out 1; have hfz8_2 := blk_frozen BK134.out 2))
            go_ret3
            exact ⟨_, by first | rfl | (simp [errW_none, errW_some] <;> rfl) | (simp [*, errW_none, errW_some] <;> rfl), by (with_reducible repeat (first | apply Kd.R_alloc | apply Kd.R_drewN | apply Kd.R_drew)); exact Kd.R_mono (Kd.R_far (p := ⟨gb134, 2, none⟩) (Kd.R_far (p := ⟨gb134, 1, none⟩) (Kd.R_far (p := ⟨gb134, 0, none⟩) (Kd.R_mono HO_2.out (fun k_ hk => (⟨hk, hk.2⟩ : _ ∧ k_ ≠ gb134))) (fun _ hk => hk.2) (.string t129)) (fun _ hk => hk.2) (.string t130)) (fun _ hk => hk.2) (.bool t131)) (fun _ hk => trivial), by repeat (first | (with_reducible first | exact HB.out | apply below_alloc | apply pw_below_drewN | apply below_drew1 | refine below_set ?_ GE134.out) | exact HB.out)⟩
          · rw [if_neg c5] at H
            have c5b0 : (t132 == 0) = false := beq_eq_false_iff_ne.mpr c5
            have c5b1 : (t132 != 0) = true := bne_iff_ne.mpr c5
            by_cases c9 : x2_1.length < 3518437208883
            · rw [if_pos c9] at H
              have LMc9 := Aside0.mk c9
              clear c9
              obtain ⟨y135, hy135⟩ : ∃ y_ : List (S67), y_ = (x2_1 ++ [(⟨t129, t130, t131⟩ : S67)]) := ⟨_, rfl⟩
              replace H : (journal_scan.l0 k1 a0 y135 (wrap64 (x3_1 + t132))) = some (r1, r2, r3) := by first | (rw [hy135]; with_reducible exact H) | (have H2_ := (Option.bind_some _ _).symm.trans H; rw [hy135]; with_reducible exact H2_) | (have H2_ := (Option.bind_some _ _).symm.trans H; with_reducible exact H2_) | with_reducible exact H | (rw [hy135]; exact H) | exact H
              have Ny135 := Aside0.mk hy135
              clear hy135
              have H' := Aside0.mk H
              clear H
              go_wp2_with (first | ((with_reducible refine gate_callee (f := 145) rfl ?_); refine goesL_ (some 12) rfl rfl Try.func145 (by kernel_rfl) rfl #[.string (a0.extract (x3_1 : Int).toNat a0.size)] rfl (by (try simp only [List.map_toArray, List.map_cons, List.map_nil]); first | done | rfl | (simp only [List.length_drop, List.length_take]; rfl)) ?_; (with_reducible refine (journal_next.calls k1 (a0.extract (x3_1 : Int).toNat a0.size) t129 t130 t131 t132 t133 _ A4.out).mono ?_); rintro e w10 ⟨rfl, hb⟩; refine ⟨_, rfl, ?_⟩; have n0_ := Aside0.mk (Kd.R_below (by (with_reducible repeat (first | apply Kd.R_alloc | apply Kd.R_drewN | apply Kd.R_drew)); exact HO_2.out) hb); have n1_ := Aside0.mk (below_step (by repeat (first | (with_reducible first | exact HB.out | apply below_alloc | apply pw_below_drewN | apply below_drew1) | exact HB.out)) hb); clear HO_2; clear HB; have HO_2 := n0_; have HB := n1_; clear n0_ n1_; (try clear hb); (try clear hb2); (try clear hk); (try clear hi)) | ((with_reducible refine gate_dst (N := 5) rfl ?_); refine box_event ?hg (N := 5) ?hd (cs := #[.string (⟨#[]⟩ : ByteArray), .string (⟨#[]⟩ : ByteArray), .bool false]) (t := 67) ?hr ?_; (case hd => rfl); (case hg => rfl); (case hr => first | (go_simp; done) | (go_simp; rfl)); intro gb134 hg w11 hbox hb; have n0_ := Aside0.mk (Kd.R_below (Kd.R_elderB (by (with_reducible repeat (first | apply Kd.R_alloc | apply Kd.R_drewN | apply Kd.R_drew)); exact HO_2.out) gb134 (Nat.le_of_eq hg.symm)) hb); have n1_ := Aside0.mk (below_step (by repeat (first | (with_reducible first | exact HB.out | apply below_alloc | apply pw_below_drewN | apply below_drew1) | exact HB.out)) hb); have n2_ := Aside0.mk (hbox); have n3_ := Aside0.mk ((by rw [hg]; exact (below_size (by repeat (first | (with_reducible first | exact HB.out | apply below_alloc | apply pw_below_drewN | apply below_drew1) | exact HB.out))) : w.heap.size ≤ gb134)); have n4_ := Aside0.mk ((by rw [hg]; exact (below_size (by repeat (first | (with_reducible first | exact HB.out | apply below_alloc | apply pw_below_drewN | apply below_drew1) | exact HB.out))) : w.heap.size ≤ gb134)); clear HO_2; clear HB; have HO_2 := n0_; have HB := n1_; have BK134 := n2_; have GW134 := n3_; have GE134 := n4_; clear n0_ n1_ n2_ n3_ n4_; clear hb hbox hg; have hcz12_0 : w11.cell? ⟨gb134, 0, none⟩ = some (.string (⟨#[]⟩ : ByteArray)) := (blk_cell BK134.out 0).trans rfl; have hcz12_1 : w11.cell? ⟨gb134, 1, none⟩ = some (.string (⟨#[]⟩ : ByteArray)) := (blk_cell BK134.out 1).trans rfl; have hcz12_2 : w11.cell? ⟨gb134, 2, none⟩ = some (.bool false) := (blk_cell BK134.out 2).trans rfl; have hfz12_0 := blk_frozen BK134.out 0; have hfz12_1 := blk_frozen BK134.out 1; have hfz12_2 := blk_frozen BK134.out 2) | ((with_reducible refine gate_builtin (b := .append) (xs := #[.tmp 21, .tmp 23]) rfl ?_); at_builtin; refine Kd.R_append k67 (w0 := w) w.heap.size rfl (.tmp 21) (.tmp 23) 138 67 (.agg #[(.string ⟨#[]⟩), (.string ⟨#[]⟩), (.bool false)]) 40 rfl Try.underlying138 info67 rfl (by decide) (by omega) u2 x2_1 (⟨t129, t130, t131⟩ : S67) [.string t129, .string t130, .bool t131] (fun k_ => k_ ≠ gb134) (fun _ => False) rfl (by first | (go_simp; done) | (go_simp; rfl)) ?aP (fun _ hk => hk.elim) ?aF ?aO ?aB ?aS ?aL ?_; (case aP => exact k67_mkM _ _ _ (⟨t129, t130, t131⟩ : S67)); (case aB => exact (by repeat (first | (with_reducible first | exact HB.out | apply below_alloc | apply pw_below_drewN | apply below_drew1 | refine below_set ?_ GE134.out) | exact HB.out))); (case aF => exact (fun k_ hk => Kd.freshB (g := gb134) (o := .cells #[.string t129, .string t130, .bool t131] 67 (0, 0)) (by (with_reducible repeat (first | refine blk_drewN ?_ _ | refine blk_drew ?_ | refine blk_alloc ?_ _)); refine blk_put (cs := #[.string t129, .string t130, .bool false]) ?_ 2 _ rfl; (with_reducible repeat (first | refine blk_drewN ?_ _ | refine blk_drew ?_ | refine blk_alloc ?_ _)); refine blk_put (cs := #[.string t129, .string (⟨#[]⟩ : ByteArray), .bool false]) ?_ 1 _ rfl; (with_reducible repeat (first | refine blk_drewN ?_ _ | refine blk_drew ?_ | refine blk_alloc ?_ _)); refine blk_put (cs := #[.string (⟨#[]⟩ : ByteArray), .string (⟨#[]⟩ : ByteArray), .bool false]) ?_ 0 _ rfl; (with_reducible repeat (first | refine blk_drewN ?_ _ | refine blk_drew ?_ | refine blk_alloc ?_ _)); exact BK134.out) k_ hk)); (case aO => exact (by (with_reducible repeat (first | apply Kd.R_alloc | apply Kd.R_drewN | apply Kd.R_drew)); exact Kd.R_mono (Kd.R_far (p := ⟨gb134, 2, none⟩) (Kd.R_far (p := ⟨gb134, 1, none⟩) (Kd.R_far (p := ⟨gb134, 0, none⟩) (Kd.R_mono HO_2.out (fun k_ hk => (⟨hk, hk.2⟩ : _ ∧ k_ ≠ gb134))) (fun _ hk => hk.2) (.string t129)) (fun _ hk => hk.2) (.string t130)) (fun _ hk => hk.2) (.bool t131)) (fun _ hk => hk.1.2))); (case aS => exact (below_size (by repeat (first | (with_reducible first | exact HB.out | apply below_alloc | apply pw_below_drewN | apply below_drew1 | refine below_set ?_ GE134.out) | exact HB.out)))); (case aL => have := LMc9.out; omega); intro v136 w13 ho hb hg hat; rw [← Ny135.out] at ho; have n0_ := Aside0.mk (blk_grown (g := gb134) (o := .cells #[.string t129, .string t130, .bool t131] 67 (0, 0)) (by (with_reducible repeat (first | refine blk_drewN ?_ _ | refine blk_drew ?_ | refine blk_alloc ?_ _)); refine blk_put (cs := #[.string t129, .string t130, .bool false]) ?_ 2 _ rfl; (with_reducible repeat (first | refine blk_drewN ?_ _ | refine blk_drew ?_ | refine blk_alloc ?_ _)); refine blk_put (cs := #[.string t129, .string (⟨#[]⟩ : ByteArray), .bool false]) ?_ 1 _ rfl; (with_reducible repeat (first | refine blk_drewN ?_ _ | refine blk_drew ?_ | refine blk_alloc ?_ _)); refine blk_put (cs := #[.string (⟨#[]⟩ : ByteArray), .string (⟨#[]⟩ : ByteArray), .bool false]) ?_ 0 _ rfl; (with_reducible repeat (first | refine blk_drewN ?_ _ | refine blk_drew ?_ | refine blk_alloc ?_ _)); exact BK134.out) hg (Kd.R_away HO_2.out (fun _ hk => hk.2))); have n1_ := Aside0.mk (hb); have n2_ := Aside0.mk (ho); clear BK134; clear HB; clear HO_2; have BK134 := n0_; have HB := n1_; have HO137 := n2_; clear n0_ n1_ n2_; clear ho hb hg hat))
              go_roundg k1
              case measure => have := HK1.out; omega
              case rel => exact ⟨(y135), (wrap64 (x3_1 + t132)), (by first | rfl | (simp; done) | (simp [*]; done) | (simp [isEmpty_bne]; done)), H', ⟨by have := HK1.out; omega⟩, ⟨by (with_reducible repeat (first | apply Kd.R_alloc | apply Kd.R_drewN | apply Kd.R_drew)); exact Kd.R_mono HO137.out (fun _ hk => trivial)⟩, ⟨by repeat (first | (with_reducible first | exact HB.out | apply below_alloc | apply pw_below_drewN | apply below_drew1 | refine below_set ?_ GE134.out) | exact HB.out)⟩⟩
            · rw [if_neg c9] at H
              exact absurd H (by simp)
        · rw [if_neg c3] at H
          exact absurd H (by simp)
      · rw [if_neg c2] at H
        exact absurd H (by simp)

/-! ### journal_Read: function 86 -/
def journal_Read.f (k : Nat) (a0 : ByteArray) : Option ((List (S67)) × Int × Int) := if (a0.size : Int) > 40000 then (some (([] : List (S67)), 0, 2)) else ((journal_scan.f k a0).bind fun bt138 => (if bt138.2.2 = 0 then (some (bt138.1, bt138.2.1, 0)) else (some (([] : List (S67)), 0, bt138.2.2))))
theorem journal_Read.mono : ∀ a0 k, LeO (journal_Read.f k a0) (journal_Read.f (k + 1) a0) := by
  intro a0 k
  unfold journal_Read.f
  repeat' first
      | (with_reducible exact journal_scan.mono _ _)
      | (with_reducible exact LeO.refl _)
      | (with_reducible exact LeO.none _)
      | (with_reducible refine LeO.ite ?_ ?_)
      | (with_reducible refine LeO.bind ?_ (fun _ => ?_))
      | exact journal_scan.mono _ _
      | exact LeO.none _
      | refine LeO.ite ?_ ?_
      | refine LeO.bind ?_ (fun _ => ?_)
set_option maxHeartbeats 8000000 in
set_option maxRecDepth 100000 in
theorem journal_Read.calls (k : Nat) (a0 : ByteArray) (r1 : List (S67)) (r2 : Int) (r3 : Int) (w : World) (h : journal_Read.f k a0 = some (r1, r2, r3)) :
    Calls Try.prog 86 #[.string a0] w fun e w' => ∃ v0_ : Value, e = .returned (.tuple #[v0_, .int .i64 r2, .int .i64 r3]) ∧ Kd.R k67 67 w' w.heap.size (fun _ => True) v0_ r1 ∧ Below w.heap.size w w' := by
  have HB := Aside0.mk (Below.refl w.heap.size w)
  have H : (if (a0.size : Int) > 40000 then (some (([] : List (S67)), 0, 2)) else ((journal_scan.f k a0).bind fun bt138 => (if bt138.2.2 = 0 then (some (bt138.1, bt138.2.1, 0)) else (some (([] : List (S67)), 0, bt138.2.2))))) = some (r1, r2, r3) := h
  clear h
  by_cases c2 : (a0.size : Int) > 40000
  · rw [if_pos c2] at H
    have c2b0 : decide (40000 < (a0.size : Int)) = true := decide_eq_true c2
    have c2b1 : decide (40000 < a0.size) = true := decide_eq_true (by omega)
    clear c2
    simp only [Option.some.injEq, Prod.mk.injEq] at H
    obtain ⟨rfl, rfl, rfl⟩ := H
    go_enter Try.func86, Try.ntmps86
    go_wp2
    go_ret3
    exact ⟨_, by first | rfl | (simp [errW_none, errW_some] <;> rfl) | (simp [*, errW_none, errW_some] <;> rfl), by first | exact Kd.R_nil _ _ _ _ _ | exact Kd.N_nil _ _ _ _ _ | exact Kd.V_nil _ _ _ _ _ | exact Kd.Q_nil _ _ _ _ _ | exact Kd.S_nil _ _ _ _ _, by repeat (first | (with_reducible first | exact HB.out | apply below_alloc | apply pw_below_drewN | apply below_drew1) | exact HB.out)⟩
  · rw [if_neg c2] at H
    have c2b0 : decide (40000 < (a0.size : Int)) = false := decide_eq_false c2
    have c2b1 : decide (40000 < a0.size) = false := decide_eq_false (by omega)
    clear c2
    replace H := Option.bind_eq_some_iff.mp H
    obtain ⟨⟨t138, t139, t140⟩, A30, H⟩ := H
    replace H : (if t140 = 0 then (some (t138, t139, 0)) else (some (([] : List (S67)), 0, t140))) = some (r1, r2, r3) := H
    have A3 := Aside0.mk A30
    clear A30
    by_cases c4 : t140 = 0
    · rw [if_pos c4] at H
      have c4b0 : (t140 == 0) = true := beq_iff_eq.mpr c4
      have c4b1 : (t140 != 0) = false := bne_eq_false_iff_eq.mpr c4
      clear c4
      simp only [Option.some.injEq, Prod.mk.injEq] at H
      obtain ⟨rfl, rfl, rfl⟩ := H
      go_enter Try.func86, Try.ntmps86
      go_wp2_with (first | ((with_reducible refine gate_callee (f := 130) rfl ?_); refine goesL_ (some 13) rfl rfl Try.func130 (by kernel_rfl) rfl #[.string a0] rfl (by (try simp only [List.map_toArray, List.map_cons, List.map_nil]); first | done | rfl | (simp only [List.length_drop, List.length_take]; rfl)) ?_; (with_reducible refine (journal_scan.calls k a0 t138 t139 t140 _ A3.out).mono ?_); rintro e w5 ⟨v141, rfl, ho0, hb⟩; refine ⟨_, rfl, ?_⟩; have n0_ := Aside0.mk (Kd.R_lower ho0 (below_size (by repeat (first | (with_reducible first | exact HB.out | apply below_alloc | apply pw_below_drewN | apply below_drew1) | exact HB.out)))); have n1_ := Aside0.mk (below_step (by repeat (first | (with_reducible first | exact HB.out | apply below_alloc | apply pw_below_drewN | apply below_drew1) | exact HB.out)) hb); clear HB; have HO142 := n0_; have HB := n1_; clear n0_ n1_; (try clear hb); (try clear hb2); (try clear hk); (try clear hi); (try clear ho0)))
      go_ret3
      exact ⟨_, by first | rfl | (simp [errW_none, errW_some] <;> rfl) | (simp [*, errW_none, errW_some] <;> rfl), by (with_reducible repeat (first | apply Kd.R_alloc | apply Kd.R_drewN | apply Kd.R_drew)); exact HO142.out, by repeat (first | (with_reducible first | exact HB.out | apply below_alloc | apply pw_below_drewN | apply below_drew1) | exact HB.out)⟩
    · rw [if_neg c4] at H
      have c4b0 : (t140 == 0) = false := beq_eq_false_iff_ne.mpr c4
      have c4b1 : (t140 != 0) = true := bne_iff_ne.mpr c4
      simp only [Option.some.injEq, Prod.mk.injEq] at H
      obtain ⟨rfl, rfl, rfl⟩ := H
      go_enter Try.func86, Try.ntmps86
      go_wp2_with (first | ((with_reducible refine gate_callee (f := 130) rfl ?_); refine goesL_ (some 13) rfl rfl Try.func130 (by kernel_rfl) rfl #[.string a0] rfl (by (try simp only [List.map_toArray, List.map_cons, List.map_nil]); first | done | rfl | (simp only [List.length_drop, List.length_take]; rfl)) ?_; (with_reducible refine (journal_scan.calls k a0 t138 t139 t140 _ A3.out).mono ?_); rintro e w6 ⟨v141, rfl, ho0, hb⟩; refine ⟨_, rfl, ?_⟩; have n0_ := Aside0.mk (Kd.R_lower ho0 (below_size (by repeat (first | (with_reducible first | exact HB.out | apply below_alloc | apply pw_below_drewN | apply below_drew1) | exact HB.out)))); have n1_ := Aside0.mk (below_step (by repeat (first | (with_reducible first | exact HB.out | apply below_alloc | apply pw_below_drewN | apply below_drew1) | exact HB.out)) hb); clear HB; have HO142 := n0_; have HB := n1_; clear n0_ n1_; (try clear hb); (try clear hb2); (try clear hk); (try clear hi); (try clear ho0)))
      go_ret3
      exact ⟨_, by first | rfl | (simp [errW_none, errW_some] <;> rfl) | (simp [*, errW_none, errW_some] <;> rfl), by first | exact Kd.R_nil _ _ _ _ _ | exact Kd.N_nil _ _ _ _ _ | exact Kd.V_nil _ _ _ _ _ | exact Kd.Q_nil _ _ _ _ _ | exact Kd.S_nil _ _ _ _ _, by repeat (first | (with_reducible first | exact HB.out | apply below_alloc | apply pw_below_drewN | apply below_drew1) | exact HB.out)⟩

/-! ### api_QRecord: function 87 -/
def api_QRecord.l0 : Nat → List (S67) → List (S67) → Int → Int → Option (Bool)
  | 0, _, _, _, _ => none
  | k + 1, x1, x12, x13, x14 => if x14 < x13 then (if 0 ≤ x14 then (if x14 < (x12.length : Int) then (if x14 < (x1.length : Int) then (if (!((((rd_T67 x12 x14).f0).toList) == (((rd_T67 x1 x14).f0).toList)) || (!((((rd_T67 x12 x14).f1).toList) == (((rd_T67 x1 x14).f1).toList)) || (!(((rd_T67 x12 x14).f2) == ((rd_T67 x1 x14).f2))))) = true then (some false) else (api_QRecord.l0 k x1 x12 x13 (wrap64 (x14 + 1)))) else (none)) else (none)) else (none)) else (some true)
def api_QRecord.f (k : Nat) (l0 : List (S67)) (l1 : List (S67)) : Option (Bool) := if (l0.length : Int) = (l1.length : Int) then (api_QRecord.l0 k l1 l0 (l0.length : Int) 0) else (some false)
theorem api_QRecord.mono_l : ∀ k, (∀ y0 y1 y2 y3, LeO (api_QRecord.l0 k y0 y1 y2 y3) (api_QRecord.l0 (k + 1) y0 y1 y2 y3))
  | 0 => fun _ _ _ _ r h => by simp [api_QRecord.l0] at h
  | k + 1 => by
    have ih0 := api_QRecord.mono_l k
    · intro y0 y1 y2 y3
      unfold api_QRecord.l0
      repeat' first
      | (with_reducible exact ih0 _ _ _ _)
      | (with_reducible exact LeO.refl _)
      | (with_reducible exact LeO.none _)
      | (with_reducible refine LeO.ite ?_ ?_)
      | (with_reducible refine LeO.bind ?_ (fun _ => ?_))
      | exact ih0 _ _ _ _
      | exact LeO.none _
      | refine LeO.ite ?_ ?_
      | refine LeO.bind ?_ (fun _ => ?_)
theorem api_QRecord.mono : ∀ a0 a1 k, LeO (api_QRecord.f k a0 a1) (api_QRecord.f (k + 1) a0 a1) := by
  intro a0 a1 k
  have ih0 := api_QRecord.mono_l k
  unfold api_QRecord.f
  repeat' first
      | (with_reducible exact ih0 _ _ _ _)
      | (with_reducible exact LeO.refl _)
      | (with_reducible exact LeO.none _)
      | (with_reducible refine LeO.ite ?_ ?_)
      | (with_reducible refine LeO.bind ?_ (fun _ => ?_))
      | exact ih0 _ _ _ _
      | exact LeO.none _
      | refine LeO.ite ?_ ?_
      | refine LeO.bind ?_ (fun _ => ?_)
set_option maxHeartbeats 8000000 in
set_option maxRecDepth 100000 in
theorem api_QRecord.calls (k : Nat) (A0 : Option Addr) (c0 : Nat) (l0 : List (S67)) (A1 : Option Addr) (c1 : Nat) (l1 : List (S67)) (r : Bool) (w : World) (hr0 : Kd.C k67 w A0 l0.length l0) (hc0 : l0.length ≤ c0) (hr1 : Kd.C k67 w A1 l1.length l1) (hc1 : l1.length ≤ c1) (h : api_QRecord.f k l0 l1 = some r) :
    Calls Try.prog 87 #[.slice A0 l0.length c0, .slice A1 l1.length c1] w fun e w' => e = .returned (.bool r) ∧ Below w.heap.size w w' := by
  have hu67 := Try.underlying67
  have HR0 := Aside0.mk hr0
  have HC0 := Aside0.mk hc0
  clear hr0 hc0
  have HR1 := Aside0.mk hr1
  have HC1 := Aside0.mk hc1
  clear hr1 hc1
  have HB := Aside0.mk (Below.refl w.heap.size w)
  have H : (if (l0.length : Int) = (l1.length : Int) then (api_QRecord.l0 k l1 l0 (l0.length : Int) 0) else (some false)) = some r := h
  clear h
  by_cases c3 : (l0.length : Int) = (l1.length : Int)
  · rw [if_pos c3] at H
    have c3b0 : ((l0.length : Int) == (l1.length : Int)) = true := beq_iff_eq.mpr c3
    have c3b1 : ((l0.length : Int) != (l1.length : Int)) = false := bne_eq_false_iff_eq.mpr c3
    have c3b2 : (l0.length == l1.length) = true := by first | simpa using c3 | (simp at c3 ⊢; omega)
    clear c3
    have H' := Aside0.mk H
    clear H
    go_enter Try.func87, Try.ntmps87
    go_wp2
    repeat (go_quiet (fail); try go_wp2)
    go_loopg [14] k (fun kq v14 w' => ∃ (x14_1 : Int), v14 = .int .i64 x14_1 ∧ Aside0 (api_QRecord.l0 kq l1 l0 (l0.length : Int) x14_1 = some r) ∧ Aside0 (kq ≤ k) ∧ Aside0 (Below w.heap.size w w'))
    case atStart => exact ⟨(0), (by first | rfl | (simp; done) | (simp [*]; done) | (simp [isEmpty_bne]; done)), H', ⟨Nat.le_refl _⟩, ⟨by repeat (first | (with_reducible first | exact HB.out | apply below_alloc | apply pw_below_drewN | apply below_drew1) | exact HB.out)⟩⟩
    case round =>
      clear H'
      try clear c1
      try clear p2
      try clear c3
      try clear c3b0
      try clear c3b1
      try clear c3b2
      obtain ⟨x14_1, rfl, HA, HK1, HB⟩ := hrel
      cases gk with
      | zero => exact absurd HA.out (by simp [api_QRecord.l0])
      | succ k1 =>
        have H := HA.out
        clear HA
        simp only [api_QRecord.l0] at H
        by_cases c4 : x14_1 < (l0.length : Int)
        · rw [if_pos c4] at H
          have c4b0 : decide (x14_1 < (l0.length : Int)) = true := decide_eq_true c4
          clear c4
          by_cases c5 : 0 ≤ x14_1
          · rw [if_pos c5] at H
            have c5b0 : decide (0 ≤ x14_1) = true := decide_eq_true c5
            clear c5
            by_cases c6 : x14_1 < (l0.length : Int)
            · rw [if_pos c6] at H
              have c6b0 : decide (x14_1 < (l0.length : Int)) = true := decide_eq_true c6
              clear c6
              by_cases c7 : x14_1 < (l1.length : Int)
              · rw [if_pos c7] at H
                have c7b0 : decide (x14_1 < (l1.length : Int)) = true := decide_eq_true c7
                clear c7
                by_cases c8 : (!((((rd_T67 l0 x14_1).f0).toList) == (((rd_T67 l1 x14_1).f0).toList)) || (!((((rd_T67 l0 x14_1).f1).toList) == (((rd_T67 l1 x14_1).f1).toList)) || (!(((rd_T67 l0 x14_1).f2) == ((rd_T67 l1 x14_1).f2))))) = true
                · rw [if_pos c8] at H
                  have c8b0 : (!((((rd_T67 l0 x14_1).f0).toList) == (((rd_T67 l1 x14_1).f0).toList)) || (!((((rd_T67 l0 x14_1).f1).toList) == (((rd_T67 l1 x14_1).f1).toList)) || (!(((rd_T67 l0 x14_1).f2) == ((rd_T67 l1 x14_1).f2))))) = true := c8
                  clear c8
                  obtain rfl := Option.some.inj H
                  have p143 : 0 ≤ (x14_1 : Int) := of_decide_eq_true (by first | (with_reducible assumption) | assumption)
                  have q143 : x14_1 < (l0.length : Int) := of_decide_eq_true (by first | (with_reducible assumption) | assumption)
                  obtain ⟨ad143, e143, hx143_0, hx143_1, hx143_2⟩ := at_T67 HR0.out x14_1 p143 q143
                  cases e143
                  replace hx143_0 := (HB.out.cell (World.block_lt_of_cell? w _ hx143_0)).trans hx143_0
                  replace hx143_1 := (HB.out.cell (World.block_lt_of_cell? w _ hx143_1)).trans hx143_1
                  replace hx143_2 := (HB.out.cell (World.block_lt_of_cell? w _ hx143_2)).trans hx143_2
                  replace p143 := eq_true p143
                  replace q143 := eq_true q143
                  go_wp2_with (first | ((with_reducible refine gate_dst (N := 6) rfl ?_); refine box_event ?hg (N := 6) ?hd (cs := #[.string (⟨#[]⟩ : ByteArray), .string (⟨#[]⟩ : ByteArray), .bool false]) (t := 67) ?hr ?_; (case hd => rfl); (case hg => rfl); (case hr => first | (go_simp; done) | (go_simp; rfl)); intro gb144 hg w9 hbox hb; have n0_ := Aside0.mk (below_step (by repeat (first | (with_reducible first | exact HB.out | apply below_alloc | apply pw_below_drewN | apply below_drew1) | exact HB.out)) hb); have n1_ := Aside0.mk (hbox); have n2_ := Aside0.mk ((by rw [hg]; exact (below_size (by repeat (first | (with_reducible first | exact HB.out | apply below_alloc | apply pw_below_drewN | apply below_drew1) | exact HB.out))) : w.heap.size ≤ gb144)); have n3_ := Aside0.mk ((by rw [hg]; exact (below_size (by repeat (first | (with_reducible first | exact HB.out | apply below_alloc | apply pw_below_drewN | apply below_drew1) | exact HB.out))) : w.heap.size ≤ gb144)); clear HB; have HB := n0_; have BK144 := n1_; have GW144 := n2_; have GE144 := n3_; clear n0_ n1_ n2_ n3_; clear hb hbox hg; have hcz10_0 : w9.cell? ⟨gb144, 0, none⟩ = some (.string (⟨#[]⟩ : ByteArray)) := (blk_cell BK144.out 0).trans rfl; have hcz10_1 : w9.cell? ⟨gb144, 1, none⟩ = some (.string (⟨#[]⟩ : ByteArray)) := (blk_cell BK144.out 1).trans rfl; have hcz10_2 : w9.cell? ⟨gb144, 2, none⟩ = some (.bool false) := (blk_cell BK144.out 2).trans rfl; have hfz10_0 := blk_frozen BK144.out 0; have hfz10_1 := blk_frozen BK144.out 1; have hfz10_2 := blk_frozen BK144.out 2; have p145 : 0 ≤ (x14_1 : Int) := of_decide_eq_true (by first | (with_reducible assumption) | assumption); have q145 : x14_1 < (l1.length : Int) := of_decide_eq_true (by first | (with_reducible assumption) | assumption); obtain ⟨ad145, e145, hx145_0, hx145_1, hx145_2⟩ := at_T67 HR1.out x14_1 p145 q145; cases e145; have hn145_0 : ad145.block ≠ gb144 := Nat.ne_of_lt (Nat.lt_of_lt_of_le (by have := World.block_lt_of_cell? _ _ hx145_0; first | rwa [add_block] at this | exact this) GW144.out); have hn145_1 : ad145.block ≠ gb144 := Nat.ne_of_lt (Nat.lt_of_lt_of_le (by have := World.block_lt_of_cell? _ _ hx145_0; first | rwa [add_block] at this | exact this) GW144.out); have hn145_2 : ad145.block ≠ gb144 := Nat.ne_of_lt (Nat.lt_of_lt_of_le (by have := World.block_lt_of_cell? _ _ hx145_0; first | rwa [add_block] at this | exact this) GW144.out); replace hx145_0 := (HB.out.cell (World.block_lt_of_cell? w _ hx145_0)).trans hx145_0; replace hx145_1 := (HB.out.cell (World.block_lt_of_cell? w _ hx145_1)).trans hx145_1; replace hx145_2 := (HB.out.cell (World.block_lt_of_cell? w _ hx145_2)).trans hx145_2; replace hx145_0 := (cell_far (p := ⟨gb144, 0, none⟩) (by first | (rw [add_block]; exact hn145_0) | (show (Addr.add _ _).block ≠ _; rw [add_block]; exact hn145_0) | exact hn145_0) (.string ((rd_T67 l0 x14_1).f0))).trans hx145_0; replace hx145_1 := (cell_far (p := ⟨gb144, 0, none⟩) (by first | (rw [add_block]; exact hn145_0) | (show (Addr.add _ _).block ≠ _; rw [add_block]; exact hn145_0) | exact hn145_0) (.string ((rd_T67 l0 x14_1).f0))).trans hx145_1; replace hx145_2 := (cell_far (p := ⟨gb144, 0, none⟩) (by first | (rw [add_block]; exact hn145_0) | (show (Addr.add _ _).block ≠ _; rw [add_block]; exact hn145_0) | exact hn145_0) (.string ((rd_T67 l0 x14_1).f0))).trans hx145_2; replace hx145_0 := (cell_far (p := ⟨gb144, 1, none⟩) (by first | (rw [add_block]; exact hn145_1) | (show (Addr.add _ _).block ≠ _; rw [add_block]; exact hn145_1) | exact hn145_1) (.string ((rd_T67 l0 x14_1).f1))).trans hx145_0; replace hx145_1 := (cell_far (p := ⟨gb144, 1, none⟩) (by first | (rw [add_block]; exact hn145_1) | (show (Addr.add _ _).block ≠ _; rw [add_block]; exact hn145_1) | exact hn145_1) (.string ((rd_T67 l0 x14_1).f1))).trans hx145_1; replace hx145_2 := (cell_far (p := ⟨gb144, 1, none⟩) (by first | (rw [add_block]; exact hn145_1) | (show (Addr.add _ _).block ≠ _; rw [add_block]; exact hn145_1) | exact hn145_1) (.string ((rd_T67 l0 x14_1).f1))).trans hx145_2; replace hx145_0 := (cell_far (p := ⟨gb144, 2, none⟩) (by first | (rw [add_block]; exact hn145_2) | (show (Addr.add _ _).block ≠ _; rw [add_block]; exact hn145_2) | exact hn145_2) (.bool ((rd_T67 l0 x14_1).f2))).trans hx145_0; replace hx145_1 := (cell_far (p := ⟨gb144, 2, none⟩) (by first | (rw [add_block]; exact hn145_2) | (show (Addr.add _ _).block ≠ _; rw [add_block]; exact hn145_2) | exact hn145_2) (.bool ((rd_T67 l0 x14_1).f2))).trans hx145_1; replace hx145_2 := (cell_far (p := ⟨gb144, 2, none⟩) (by first | (rw [add_block]; exact hn145_2) | (show (Addr.add _ _).block ≠ _; rw [add_block]; exact hn145_2) | exact hn145_2) (.bool ((rd_T67 l0 x14_1).f2))).trans hx145_2; (try have hy145_0 := fun (n_ : Nat) => (show (((((w9.drewN n_).setCell ⟨gb144, 0, none⟩ (.string ((rd_T67 l0 x14_1).f0))).setCell ⟨gb144, 1, none⟩ (.string ((rd_T67 l0 x14_1).f1))).setCell ⟨gb144, 2, none⟩ (.bool ((rd_T67 l0 x14_1).f2)))).cell? _ = some _ from hx145_0)); (try have hy145_1 := fun (n_ : Nat) => (show (((((w9.drewN n_).setCell ⟨gb144, 0, none⟩ (.string ((rd_T67 l0 x14_1).f0))).setCell ⟨gb144, 1, none⟩ (.string ((rd_T67 l0 x14_1).f1))).setCell ⟨gb144, 2, none⟩ (.bool ((rd_T67 l0 x14_1).f2)))).cell? _ = some _ from hx145_1)); (try have hy145_2 := fun (n_ : Nat) => (show (((((w9.drewN n_).setCell ⟨gb144, 0, none⟩ (.string ((rd_T67 l0 x14_1).f0))).setCell ⟨gb144, 1, none⟩ (.string ((rd_T67 l0 x14_1).f1))).setCell ⟨gb144, 2, none⟩ (.bool ((rd_T67 l0 x14_1).f2)))).cell? _ = some _ from hx145_2)); clear hn145_0; clear hn145_1; clear hn145_2; replace p145 := eq_true p145; replace q145 := eq_true q145))
                  repeat (go_quiet (first | ((with_reducible refine gate_dst (N := 6) rfl ?_); refine box_event ?hg (N := 6) ?hd (cs := #[.string (⟨#[]⟩ : ByteArray), .string (⟨#[]⟩ : ByteArray), .bool false]) (t := 67) ?hr ?_; (case hd => rfl); (case hg => rfl); (case hr => first | (go_simp; done) | (go_simp; rfl)); intro gb144 hg w9 hbox hb; have n0_ := Aside0.mk (below_step (by repeat (first | (with_reducible first | exact HB.out | apply below_alloc | apply pw_below_drewN | apply below_drew1) | exact HB.out)) hb); have n1_ := Aside0.mk (hbox); have n2_ := Aside0.mk ((by rw [hg]; exact (below_size (by repeat (first | (with_reducible first | exact HB.out | apply below_alloc | apply pw_below_drewN | apply below_drew1) | exact HB.out))) : w.heap.size ≤ gb144)); have n3_ := Aside0.mk ((by rw [hg]; exact (below_size (by repeat (first | (with_reducible first | exact HB.out | apply below_alloc | apply pw_below_drewN | apply below_drew1) | exact HB.out))) : w.heap.size ≤ gb144)); clear HB; have HB := n0_; have BK144 := n1_; have GW144 := n2_; have GE144 := n3_; clear n0_ n1_ n2_ n3_; clear hb hbox hg; have hcz10_0 : w9.cell? ⟨gb144, 0, none⟩ = some (.string (⟨#[]⟩ : ByteArray)) := (blk_cell BK144.out 0).trans rfl; have hcz10_1 : w9.cell? ⟨gb144, 1, none⟩ = some (.string (⟨#[]⟩ : ByteArray)) := (blk_cell BK144.out 1).trans rfl; have hcz10_2 : w9.cell? ⟨gb144, 2, none⟩ = some (.bool false) := (blk_cell BK144.out 2).trans rfl; have hfz10_0 := blk_frozen BK144.out 0; have hfz10_1 := blk_frozen BK144.out 1; have hfz10_2 := blk_frozen BK144.out 2; have p145 : 0 ≤ (x14_1 : Int) := of_decide_eq_true (by first | (with_reducible assumption) | assumption); have q145 : x14_1 < (l1.length : Int) := of_decide_eq_true (by first | (with_reducible assumption) | assumption); obtain ⟨ad145, e145, hx145_0, hx145_1, hx145_2⟩ := at_T67 HR1.out x14_1 p145 q145; cases e145; have hn145_0 : ad145.block ≠ gb144 := Nat.ne_of_lt (Nat.lt_of_lt_of_le (by have := World.block_lt_of_cell? _ _ hx145_0; first | rwa [add_block] at this | exact this) GW144.out); have hn145_1 : ad145.block ≠ gb144 := Nat.ne_of_lt (Nat.lt_of_lt_of_le (by have := World.block_lt_of_cell? _ _ hx145_0; first | rwa [add_block] at this | exact this) GW144.out); have hn145_2 : ad145.block ≠ gb144 := Nat.ne_of_lt (Nat.lt_of_lt_of_le (by have := World.block_lt_of_cell? _ _ hx145_0; first | rwa [add_block] at this | exact this) GW144.out); replace hx145_0 := (HB.out.cell (World.block_lt_of_cell? w _ hx145_0)).trans hx145_0; replace hx145_1 := (HB.out.cell (World.block_lt_of_cell? w _ hx145_1)).trans hx145_1; replace hx145_2 := (HB.out.cell (World.block_lt_of_cell? w _ hx145_2)).trans hx145_2; replace hx145_0 := (cell_far (p := ⟨gb144, 0, none⟩) (by first | (rw [add_block]; exact hn145_0) | (show (Addr.add _ _).block ≠ _; rw [add_block]; exact hn145_0) | exact hn145_0) (.string ((rd_T67 l0 x14_1).f0))).trans hx145_0; replace hx145_1 := (cell_far (p := ⟨gb144, 0, none⟩) (by first | (rw [add_block]; exact hn145_0) | (show (Addr.add _ _).block ≠ _; rw [add_block]; exact hn145_0) | exact hn145_0) (.string ((rd_T67 l0 x14_1).f0))).trans hx145_1; replace hx145_2 := (cell_far (p := ⟨gb144, 0, none⟩) (by first | (rw [add_block]; exact hn145_0) | (show (Addr.add _ _).block ≠ _; rw [add_block]; exact hn145_0) | exact hn145_0) (.string ((rd_T67 l0 x14_1).f0))).trans hx145_2; replace hx145_0 := (cell_far (p := ⟨gb144, 1, none⟩) (by first | (rw [add_block]; exact hn145_1) | (show (Addr.add _ _).block ≠ _; rw [add_block]; exact hn145_1) | exact hn145_1) (.string ((rd_T67 l0 x14_1).f1))).trans hx145_0; replace hx145_1 := (cell_far (p := ⟨gb144, 1, none⟩) (by first | (rw [add_block]; exact hn145_1) | (show (Addr.add _ _).block ≠ _; rw [add_block]; exact hn145_1) | exact hn145_1) (.string ((rd_T67 l0 x14_1).f1))).trans hx145_1; replace hx145_2 := (cell_far (p := ⟨gb144, 1, none⟩) (by first | (rw [add_block]; exact hn145_1) | (show (Addr.add _ _).block ≠ _; rw [add_block]; exact hn145_1) | exact hn145_1) (.string ((rd_T67 l0 x14_1).f1))).trans hx145_2; replace hx145_0 := (cell_far (p := ⟨gb144, 2, none⟩) (by first | (rw [add_block]; exact hn145_2) | (show (Addr.add _ _).block ≠ _; rw [add_block]; exact hn145_2) | exact hn145_2) (.bool ((rd_T67 l0 x14_1).f2))).trans hx145_0; replace hx145_1 := (cell_far (p := ⟨gb144, 2, none⟩) (by first | (rw [add_block]; exact hn145_2) | (show (Addr.add _ _).block ≠ _; rw [add_block]; exact hn145_2) | exact hn145_2) (.bool ((rd_T67 l0 x14_1).f2))).trans hx145_1; replace hx145_2 := (cell_far (p := ⟨gb144, 2, none⟩) (by first | (rw [add_block]; exact hn145_2) | (show (Addr.add _ _).block ≠ _; rw [add_block]; exact hn145_2) | exact hn145_2) (.bool ((rd_T67 l0 x14_1).f2))).trans hx145_2; (try have hy145_0 := fun (n_ : Nat) => (show (((((w9.drewN n_).setCell ⟨gb144, 0, none⟩ (.string ((rd_T67 l0 x14_1).f0))).setCell ⟨gb144, 1, none⟩ (.string ((rd_T67 l0 x14_1).f1))).setCell ⟨gb144, 2, none⟩ (.bool ((rd_T67 l0 x14_1).f2)))).cell? _ = some _ from hx145_0)); (try have hy145_1 := fun (n_ : Nat) => (show (((((w9.drewN n_).setCell ⟨gb144, 0, none⟩ (.string ((rd_T67 l0 x14_1).f0))).setCell ⟨gb144, 1, none⟩ (.string ((rd_T67 l0 x14_1).f1))).setCell ⟨gb144, 2, none⟩ (.bool ((rd_T67 l0 x14_1).f2)))).cell? _ = some _ from hx145_1)); (try have hy145_2 := fun (n_ : Nat) => (show (((((w9.drewN n_).setCell ⟨gb144, 0, none⟩ (.string ((rd_T67 l0 x14_1).f0))).setCell ⟨gb144, 1, none⟩ (.string ((rd_T67 l0 x14_1).f1))).setCell ⟨gb144, 2, none⟩ (.bool ((rd_T67 l0 x14_1).f2)))).cell? _ = some _ from hx145_2)); clear hn145_0; clear hn145_1; clear hn145_2; replace p145 := eq_true p145; replace q145 := eq_true q145)); try go_wp2_with (first | ((with_reducible refine gate_dst (N := 6) rfl ?_); refine box_event ?hg (N := 6) ?hd (cs := #[.string (⟨#[]⟩ : ByteArray), .string (⟨#[]⟩ : ByteArray), .bool false]) (t := 67) ?hr ?_; (case hd => rfl); (case hg => rfl); (case hr => first | (go_simp; done) | (go_simp; rfl)); intro gb144 hg w9 hbox hb; have n0_ := Aside0.mk (below_step (by repeat (first | (with_reducible first | exact HB.out | apply below_alloc | apply pw_below_drewN | apply below_drew1) | exact HB.out)) hb); have n1_ := Aside0.mk (hbox); have n2_ := Aside0.mk ((by rw [hg]; exact (below_size (by repeat (first | (with_reducible first | exact HB.out | apply below_alloc | apply pw_below_drewN | apply below_drew1) | exact HB.out))) : w.heap.size ≤ gb144)); have n3_ := Aside0.mk ((by rw [hg]; exact (below_size (by repeat (first | (with_reducible first | exact HB.out | apply below_alloc | apply pw_below_drewN | apply below_drew1) | exact HB.out))) : w.heap.size ≤ gb144)); clear HB; have HB := n0_; have BK144 := n1_; have GW144 := n2_; have GE144 := n3_; clear n0_ n1_ n2_ n3_; clear hb hbox hg; have hcz10_0 : w9.cell? ⟨gb144, 0, none⟩ = some (.string (⟨#[]⟩ : ByteArray)) := (blk_cell BK144.out 0).trans rfl; have hcz10_1 : w9.cell? ⟨gb144, 1, none⟩ = some (.string (⟨#[]⟩ : ByteArray)) := (blk_cell BK144.out 1).trans rfl; have hcz10_2 : w9.cell? ⟨gb144, 2, none⟩ = some (.bool false) := (blk_cell BK144.out 2).trans rfl; have hfz10_0 := blk_frozen BK144.out 0; have hfz10_1 := blk_frozen BK144.out 1; have hfz10_2 := blk_frozen BK144.out 2; have p145 : 0 ≤ (x14_1 : Int) := of_decide_eq_true (by first | (with_reducible assumption) | assumption); have q145 : x14_1 < (l1.length : Int) := of_decide_eq_true (by first | (with_reducible assumption) | assumption); obtain ⟨ad145, e145, hx145_0, hx145_1, hx145_2⟩ := at_T67 HR1.out x14_1 p145 q145; cases e145; have hn145_0 : ad145.block ≠ gb144 := Nat.ne_of_lt (Nat.lt_of_lt_of_le (by have := World.block_lt_of_cell? _ _ hx145_0; first | rwa [add_block] at this | exact this) GW144.out); have hn145_1 : ad145.block ≠ gb144 := Nat.ne_of_lt (Nat.lt_of_lt_of_le (by have := World.block_lt_of_cell? _ _ hx145_0; first | rwa [add_block] at this | exact this) GW144.out); have hn145_2 : ad145.block ≠ gb144 := Nat.ne_of_lt (Nat.lt_of_lt_of_le (by have := World.block_lt_of_cell? _ _ hx145_0; first | rwa [add_block] at this | exact this) GW144.out); replace hx145_0 := (HB.out.cell (World.block_lt_of_cell? w _ hx145_0)).trans hx145_0; replace hx145_1 := (HB.out.cell (World.block_lt_of_cell? w _ hx145_1)).trans hx145_1; replace hx145_2 := (HB.out.cell (World.block_lt_of_cell? w _ hx145_2)).trans hx145_2; replace hx145_0 := (cell_far (p := ⟨gb144, 0, none⟩) (by first | (rw [add_block]; exact hn145_0) | (show (Addr.add _ _).block ≠ _; rw [add_block]; exact hn145_0) | exact hn145_0) (.string ((rd_T67 l0 x14_1).f0))).trans hx145_0; replace hx145_1 := (cell_far (p := ⟨gb144, 0, none⟩) (by first | (rw [add_block]; exact hn145_0) | (show (Addr.add _ _).block ≠ _; rw [add_block]; exact hn145_0) | exact hn145_0) (.string ((rd_T67 l0 x14_1).f0))).trans hx145_1; replace hx145_2 := (cell_far (p := ⟨gb144, 0, none⟩) (by first | (rw [add_block]; exact hn145_0) | (show (Addr.add _ _).block ≠ _; rw [add_block]; exact hn145_0) | exact hn145_0) (.string ((rd_T67 l0 x14_1).f0))).trans hx145_2; replace hx145_0 := (cell_far (p := ⟨gb144, 1, none⟩) (by first | (rw [add_block]; exact hn145_1) | (show (Addr.add _ _).block ≠ _; rw [add_block]; exact hn145_1) | exact hn145_1) (.string ((rd_T67 l0 x14_1).f1))).trans hx145_0; replace hx145_1 := (cell_far (p := ⟨gb144, 1, none⟩) (by first | (rw [add_block]; exact hn145_1) | (show (Addr.add _ _).block ≠ _; rw [add_block]; exact hn145_1) | exact hn145_1) (.string ((rd_T67 l0 x14_1).f1))).trans hx145_1; replace hx145_2 := (cell_far (p := ⟨gb144, 1, none⟩) (by first | (rw [add_block]; exact hn145_1) | (show (Addr.add _ _).block ≠ _; rw [add_block]; exact hn145_1) | exact hn145_1) (.string ((rd_T67 l0 x14_1).f1))).trans hx145_2; replace hx145_0 := (cell_far (p := ⟨gb144, 2, none⟩) (by first | (rw [add_block]; exact hn145_2) | (show (Addr.add _ _).block ≠ _; rw [add_block]; exact hn145_2) | exact hn145_2) (.bool ((rd_T67 l0 x14_1).f2))).trans hx145_0; replace hx145_1 := (cell_far (p := ⟨gb144, 2, none⟩) (by first | (rw [add_block]; exact hn145_2) | (show (Addr.add _ _).block ≠ _; rw [add_block]; exact hn145_2) | exact hn145_2) (.bool ((rd_T67 l0 x14_1).f2))).trans hx145_1; replace hx145_2 := (cell_far (p := ⟨gb144, 2, none⟩) (by first | (rw [add_block]; exact hn145_2) | (show (Addr.add _ _).block ≠ _; rw [add_block]; exact hn145_2) | exact hn145_2) (.bool ((rd_T67 l0 x14_1).f2))).trans hx145_2; (try have hy145_0 := fun (n_ : Nat) => (show (((((w9.drewN n_).setCell ⟨gb144, 0, none⟩ (.string ((rd_T67 l0 x14_1).f0))).setCell ⟨gb144, 1, none⟩ (.string ((rd_T67 l0 x14_1).f1))).setCell ⟨gb144, 2, none⟩ (.bool ((rd_T67 l0 x14_1).f2)))).cell? _ = some _ from hx145_0)); (try have hy145_1 := fun (n_ : Nat) => (show (((((w9.drewN n_).setCell ⟨gb144, 0, none⟩ (.string ((rd_T67 l0 x14_1).f0))).setCell ⟨gb144, 1, none⟩ (.string ((rd_T67 l0 x14_1).f1))).setCell ⟨gb144, 2, none⟩ (.bool ((rd_T67 l0 x14_1).f2)))).cell? _ = some _ from hx145_1)); (try have hy145_2 := fun (n_ : Nat) => (show (((((w9.drewN n_).setCell ⟨gb144, 0, none⟩ (.string ((rd_T67 l0 x14_1).f0))).setCell ⟨gb144, 1, none⟩ (.string ((rd_T67 l0 x14_1).f1))).setCell ⟨gb144, 2, none⟩ (.bool ((rd_T67 l0 x14_1).f2)))).cell? _ = some _ from hx145_2)); clear hn145_0; clear hn145_1; clear hn145_2; replace p145 := eq_true p145; replace q145 := eq_true q145)))
                  go_ret
                  exact ⟨by first | rfl | (simp [errW_none, errW_some] <;> rfl) | (simp [*, errW_none, errW_some] <;> rfl), by repeat (first | (with_reducible first | exact HB.out | apply below_alloc | apply pw_below_drewN | apply below_drew1 | refine below_set ?_ GE144.out) | exact HB.out)⟩
                · rw [if_neg c8] at H
                  have c8b0 : (!((((rd_T67 l0 x14_1).f0).toList) == (((rd_T67 l1 x14_1).f0).toList)) || (!((((rd_T67 l0 x14_1).f1).toList) == (((rd_T67 l1 x14_1).f1).toList)) || (!(((rd_T67 l0 x14_1).f2) == ((rd_T67 l1 x14_1).f2))))) = false := by simpa using c8
                  clear c8
                  have H' := Aside0.mk H
                  clear H
                  have p143 : 0 ≤ (x14_1 : Int) := of_decide_eq_true (by first | (with_reducible assumption) | assumption)
                  have q143 : x14_1 < (l0.length : Int) := of_decide_eq_true (by first | (with_reducible assumption) | assumption)
                  obtain ⟨ad143, e143, hx143_0, hx143_1, hx143_2⟩ := at_T67 HR0.out x14_1 p143 q143
                  cases e143
                  replace hx143_0 := (HB.out.cell (World.block_lt_of_cell? w _ hx143_0)).trans hx143_0
                  replace hx143_1 := (HB.out.cell (World.block_lt_of_cell? w _ hx143_1)).trans hx143_1
                  replace hx143_2 := (HB.out.cell (World.block_lt_of_cell? w _ hx143_2)).trans hx143_2
                  replace p143 := eq_true p143
                  replace q143 := eq_true q143
                  go_wp2_with (first | ((with_reducible refine gate_dst (N := 6) rfl ?_); refine box_event ?hg (N := 6) ?hd (cs := #[.string (⟨#[]⟩ : ByteArray), .string (⟨#[]⟩ : ByteArray), .bool false]) (t := 67) ?hr ?_; (case hd => rfl); (case hg => rfl); (case hr => first | (go_simp; done) | (go_simp; rfl)); intro gb144 hg w11 hbox hb; have n0_ := Aside0.mk (below_step (by repeat (first | (with_reducible first | exact HB.out | apply below_alloc | apply pw_below_drewN | apply below_drew1) | exact HB.out)) hb); have n1_ := Aside0.mk (hbox); have n2_ := Aside0.mk ((by rw [hg]; exact (below_size (by repeat (first | (with_reducible first | exact HB.out | apply below_alloc | apply pw_below_drewN | apply below_drew1) | exact HB.out))) : w.heap.size ≤ gb144)); have n3_ := Aside0.mk ((by rw [hg]; exact (below_size (by repeat (first | (with_reducible first | exact HB.out | apply below_alloc | apply pw_below_drewN | apply below_drew1) | exact HB.out))) : w.heap.size ≤ gb144)); clear HB; have HB := n0_; have BK144 := n1_; have GW144 := n2_; have GE144 := n3_; clear n0_ n1_ n2_ n3_; clear hb hbox hg; have hcz12_0 : w11.cell? ⟨gb144, 0, none⟩ = some (.string (⟨#[]⟩ : ByteArray)) := (blk_cell BK144.out 0).trans rfl; have hcz12_1 : w11.cell? ⟨gb144, 1, none⟩ = some (.string (⟨#[]⟩ : ByteArray)) := (blk_cell BK144.out 1).trans rfl; have hcz12_2 : w11.cell? ⟨gb144, 2, none⟩ = some (.bool false) := (blk_cell BK144.out 2).trans rfl; have hfz12_0 := blk_frozen BK144.out 0; have hfz12_1 := blk_frozen BK144.out 1; have hfz12_2 := blk_frozen BK144.out 2; have p145 : 0 ≤ (x14_1 : Int) := of_decide_eq_true (by first | (with_reducible assumption) | assumption); have q145 : x14_1 < (l1.length : Int) := of_decide_eq_true (by first | (with_reducible assumption) | assumption); obtain ⟨ad145, e145, hx145_0, hx145_1, hx145_2⟩ := at_T67 HR1.out x14_1 p145 q145; cases e145; have hn145_0 : ad145.block ≠ gb144 := Nat.ne_of_lt (Nat.lt_of_lt_of_le (by have := World.block_lt_of_cell? _ _ hx145_0; first | rwa [add_block] at this | exact this) GW144.out); have hn145_1 : ad145.block ≠ gb144 := Nat.ne_of_lt (Nat.lt_of_lt_of_le (by have := World.block_lt_of_cell? _ _ hx145_0; first | rwa [add_block] at this | exact this) GW144.out); have hn145_2 : ad145.block ≠ gb144 := Nat.ne_of_lt (Nat.lt_of_lt_of_le (by have := World.block_lt_of_cell? _ _ hx145_0; first | rwa [add_block] at this | exact this) GW144.out); replace hx145_0 := (HB.out.cell (World.block_lt_of_cell? w _ hx145_0)).trans hx145_0; replace hx145_1 := (HB.out.cell (World.block_lt_of_cell? w _ hx145_1)).trans hx145_1; replace hx145_2 := (HB.out.cell (World.block_lt_of_cell? w _ hx145_2)).trans hx145_2; replace hx145_0 := (cell_far (p := ⟨gb144, 0, none⟩) (by first | (rw [add_block]; exact hn145_0) | (show (Addr.add _ _).block ≠ _; rw [add_block]; exact hn145_0) | exact hn145_0) (.string ((rd_T67 l0 x14_1).f0))).trans hx145_0; replace hx145_1 := (cell_far (p := ⟨gb144, 0, none⟩) (by first | (rw [add_block]; exact hn145_0) | (show (Addr.add _ _).block ≠ _; rw [add_block]; exact hn145_0) | exact hn145_0) (.string ((rd_T67 l0 x14_1).f0))).trans hx145_1; replace hx145_2 := (cell_far (p := ⟨gb144, 0, none⟩) (by first | (rw [add_block]; exact hn145_0) | (show (Addr.add _ _).block ≠ _; rw [add_block]; exact hn145_0) | exact hn145_0) (.string ((rd_T67 l0 x14_1).f0))).trans hx145_2; replace hx145_0 := (cell_far (p := ⟨gb144, 1, none⟩) (by first | (rw [add_block]; exact hn145_1) | (show (Addr.add _ _).block ≠ _; rw [add_block]; exact hn145_1) | exact hn145_1) (.string ((rd_T67 l0 x14_1).f1))).trans hx145_0; replace hx145_1 := (cell_far (p := ⟨gb144, 1, none⟩) (by first | (rw [add_block]; exact hn145_1) | (show (Addr.add _ _).block ≠ _; rw [add_block]; exact hn145_1) | exact hn145_1) (.string ((rd_T67 l0 x14_1).f1))).trans hx145_1; replace hx145_2 := (cell_far (p := ⟨gb144, 1, none⟩) (by first | (rw [add_block]; exact hn145_1) | (show (Addr.add _ _).block ≠ _; rw [add_block]; exact hn145_1) | exact hn145_1) (.string ((rd_T67 l0 x14_1).f1))).trans hx145_2; replace hx145_0 := (cell_far (p := ⟨gb144, 2, none⟩) (by first | (rw [add_block]; exact hn145_2) | (show (Addr.add _ _).block ≠ _; rw [add_block]; exact hn145_2) | exact hn145_2) (.bool ((rd_T67 l0 x14_1).f2))).trans hx145_0; replace hx145_1 := (cell_far (p := ⟨gb144, 2, none⟩) (by first | (rw [add_block]; exact hn145_2) | (show (Addr.add _ _).block ≠ _; rw [add_block]; exact hn145_2) | exact hn145_2) (.bool ((rd_T67 l0 x14_1).f2))).trans hx145_1; replace hx145_2 := (cell_far (p := ⟨gb144, 2, none⟩) (by first | (rw [add_block]; exact hn145_2) | (show (Addr.add _ _).block ≠ _; rw [add_block]; exact hn145_2) | exact hn145_2) (.bool ((rd_T67 l0 x14_1).f2))).trans hx145_2; (try have hy145_0 := fun (n_ : Nat) => (show (((((w11.drewN n_).setCell ⟨gb144, 0, none⟩ (.string ((rd_T67 l0 x14_1).f0))).setCell ⟨gb144, 1, none⟩ (.string ((rd_T67 l0 x14_1).f1))).setCell ⟨gb144, 2, none⟩ (.bool ((rd_T67 l0 x14_1).f2)))).cell? _ = some _ from hx145_0)); (try have hy145_1 := fun (n_ : Nat) => (show (((((w11.drewN n_).setCell ⟨gb144, 0, none⟩ (.string ((rd_T67 l0 x14_1).f0))).setCell ⟨gb144, 1, none⟩ (.string ((rd_T67 l0 x14_1).f1))).setCell ⟨gb144, 2, none⟩ (.bool ((rd_T67 l0 x14_1).f2)))).cell? _ = some _ from hx145_1)); (try have hy145_2 := fun (n_ : Nat) => (show (((((w11.drewN n_).setCell ⟨gb144, 0, none⟩ (.string ((rd_T67 l0 x14_1).f0))).setCell ⟨gb144, 1, none⟩ (.string ((rd_T67 l0 x14_1).f1))).setCell ⟨gb144, 2, none⟩ (.bool ((rd_T67 l0 x14_1).f2)))).cell? _ = some _ from hx145_2)); clear hn145_0; clear hn145_1; clear hn145_2; replace p145 := eq_true p145; replace q145 := eq_true q145))
                  repeat (go_quiet (first | ((with_reducible refine gate_dst (N := 6) rfl ?_); refine box_event ?hg (N := 6) ?hd (cs := #[.string (⟨#[]⟩ : ByteArray), .string (⟨#[]⟩ : ByteArray), .bool false]) (t := 67) ?hr ?_; (case hd => rfl); (case hg => rfl); (case hr => first | (go_simp; done) | (go_simp; rfl)); intro gb144 hg w11 hbox hb; have n0_ := Aside0.mk (below_step (by repeat (first | (with_reducible first | exact HB.out | apply below_alloc | apply pw_below_drewN | apply below_drew1) | exact HB.out)) hb); have n1_ := Aside0.mk (hbox); have n2_ := Aside0.mk ((by rw [hg]; exact (below_size (by repeat (first | (with_reducible first | exact HB.out | apply below_alloc | apply pw_below_drewN | apply below_drew1) | exact HB.out))) : w.heap.size ≤ gb144)); have n3_ := Aside0.mk ((by rw [hg]; exact (below_size (by repeat (first | (with_reducible first | exact HB.out | apply below_alloc | apply pw_below_drewN | apply below_drew1) | exact HB.out))) : w.heap.size ≤ gb144)); clear HB; have HB := n0_; have BK144 := n1_; have GW144 := n2_; have GE144 := n3_; clear n0_ n1_ n2_ n3_; clear hb hbox hg; have hcz12_0 : w11.cell? ⟨gb144, 0, none⟩ = some (.string (⟨#[]⟩ : ByteArray)) := (blk_cell BK144.out 0).trans rfl; have hcz12_1 : w11.cell? ⟨gb144, 1, none⟩ = some (.string (⟨#[]⟩ : ByteArray)) := (blk_cell BK144.out 1).trans rfl; have hcz12_2 : w11.cell? ⟨gb144, 2, none⟩ = some (.bool false) := (blk_cell BK144.out 2).trans rfl; have hfz12_0 := blk_frozen BK144.out 0; have hfz12_1 := blk_frozen BK144.out 1; have hfz12_2 := blk_frozen BK144.out 2; have p145 : 0 ≤ (x14_1 : Int) := of_decide_eq_true (by first | (with_reducible assumption) | assumption); have q145 : x14_1 < (l1.length : Int) := of_decide_eq_true (by first | (with_reducible assumption) | assumption); obtain ⟨ad145, e145, hx145_0, hx145_1, hx145_2⟩ := at_T67 HR1.out x14_1 p145 q145; cases e145; have hn145_0 : ad145.block ≠ gb144 := Nat.ne_of_lt (Nat.lt_of_lt_of_le (by have := World.block_lt_of_cell? _ _ hx145_0; first | rwa [add_block] at this | exact this) GW144.out); have hn145_1 : ad145.block ≠ gb144 := Nat.ne_of_lt (Nat.lt_of_lt_of_le (by have := World.block_lt_of_cell? _ _ hx145_0; first | rwa [add_block] at this | exact this) GW144.out); have hn145_2 : ad145.block ≠ gb144 := Nat.ne_of_lt (Nat.lt_of_lt_of_le (by have := World.block_lt_of_cell? _ _ hx145_0; first | rwa [add_block] at this | exact this) GW144.out); replace hx145_0 := (HB.out.cell (World.block_lt_of_cell? w _ hx145_0)).trans hx145_0; replace hx145_1 := (HB.out.cell (World.block_lt_of_cell? w _ hx145_1)).trans hx145_1; replace hx145_2 := (HB.out.cell (World.block_lt_of_cell? w _ hx145_2)).trans hx145_2; replace hx145_0 := (cell_far (p := ⟨gb144, 0, none⟩) (by first | (rw [add_block]; exact hn145_0) | (show (Addr.add _ _).block ≠ _; rw [add_block]; exact hn145_0) | exact hn145_0) (.string ((rd_T67 l0 x14_1).f0))).trans hx145_0; replace hx145_1 := (cell_far (p := ⟨gb144, 0, none⟩) (by first | (rw [add_block]; exact hn145_0) | (show (Addr.add _ _).block ≠ _; rw [add_block]; exact hn145_0) | exact hn145_0) (.string ((rd_T67 l0 x14_1).f0))).trans hx145_1; replace hx145_2 := (cell_far (p := ⟨gb144, 0, none⟩) (by first | (rw [add_block]; exact hn145_0) | (show (Addr.add _ _).block ≠ _; rw [add_block]; exact hn145_0) | exact hn145_0) (.string ((rd_T67 l0 x14_1).f0))).trans hx145_2; replace hx145_0 := (cell_far (p := ⟨gb144, 1, none⟩) (by first | (rw [add_block]; exact hn145_1) | (show (Addr.add _ _).block ≠ _; rw [add_block]; exact hn145_1) | exact hn145_1) (.string ((rd_T67 l0 x14_1).f1))).trans hx145_0; replace hx145_1 := (cell_far (p := ⟨gb144, 1, none⟩) (by first | (rw [add_block]; exact hn145_1) | (show (Addr.add _ _).block ≠ _; rw [add_block]; exact hn145_1) | exact hn145_1) (.string ((rd_T67 l0 x14_1).f1))).trans hx145_1; replace hx145_2 := (cell_far (p := ⟨gb144, 1, none⟩) (by first | (rw [add_block]; exact hn145_1) | (show (Addr.add _ _).block ≠ _; rw [add_block]; exact hn145_1) | exact hn145_1) (.string ((rd_T67 l0 x14_1).f1))).trans hx145_2; replace hx145_0 := (cell_far (p := ⟨gb144, 2, none⟩) (by first | (rw [add_block]; exact hn145_2) | (show (Addr.add _ _).block ≠ _; rw [add_block]; exact hn145_2) | exact hn145_2) (.bool ((rd_T67 l0 x14_1).f2))).trans hx145_0; replace hx145_1 := (cell_far (p := ⟨gb144, 2, none⟩) (by first | (rw [add_block]; exact hn145_2) | (show (Addr.add _ _).block ≠ _; rw [add_block]; exact hn145_2) | exact hn145_2) (.bool ((rd_T67 l0 x14_1).f2))).trans hx145_1; replace hx145_2 := (cell_far (p := ⟨gb144, 2, none⟩) (by first | (rw [add_block]; exact hn145_2) | (show (Addr.add _ _).block ≠ _; rw [add_block]; exact hn145_2) | exact hn145_2) (.bool ((rd_T67 l0 x14_1).f2))).trans hx145_2; (try have hy145_0 := fun (n_ : Nat) => (show (((((w11.drewN n_).setCell ⟨gb144, 0, none⟩ (.string ((rd_T67 l0 x14_1).f0))).setCell ⟨gb144, 1, none⟩ (.string ((rd_T67 l0 x14_1).f1))).setCell ⟨gb144, 2, none⟩ (.bool ((rd_T67 l0 x14_1).f2)))).cell? _ = some _ from hx145_0)); (try have hy145_1 := fun (n_ : Nat) => (show (((((w11.drewN n_).setCell ⟨gb144, 0, none⟩ (.string ((rd_T67 l0 x14_1).f0))).setCell ⟨gb144, 1, none⟩ (.string ((rd_T67 l0 x14_1).f1))).setCell ⟨gb144, 2, none⟩ (.bool ((rd_T67 l0 x14_1).f2)))).cell? _ = some _ from hx145_1)); (try have hy145_2 := fun (n_ : Nat) => (show (((((w11.drewN n_).setCell ⟨gb144, 0, none⟩ (.string ((rd_T67 l0 x14_1).f0))).setCell ⟨gb144, 1, none⟩ (.string ((rd_T67 l0 x14_1).f1))).setCell ⟨gb144, 2, none⟩ (.bool ((rd_T67 l0 x14_1).f2)))).cell? _ = some _ from hx145_2)); clear hn145_0; clear hn145_1; clear hn145_2; replace p145 := eq_true p145; replace q145 := eq_true q145)); try go_wp2_with (first | ((with_reducible refine gate_dst (N := 6) rfl ?_); refine box_event ?hg (N := 6) ?hd (cs := #[.string (⟨#[]⟩ : ByteArray), .string (⟨#[]⟩ : ByteArray), .bool false]) (t := 67) ?hr ?_; (case hd => rfl); (case hg => rfl); (case hr => first | (go_simp; done) | (go_simp; rfl)); intro gb144 hg w11 hbox hb; have n0_ := Aside0.mk (below_step (by repeat (first | (with_reducible first | exact HB.out | apply below_alloc | apply pw_below_drewN | apply below_drew1) | exact HB.out)) hb); have n1_ := Aside0.mk (hbox); have n2_ := Aside0.mk ((by rw [hg]; exact (below_size (by repeat (first | (with_reducible first | exact HB.out | apply below_alloc | apply pw_below_drewN | apply below_drew1) | exact HB.out))) : w.heap.size ≤ gb144)); have n3_ := Aside0.mk ((by rw [hg]; exact (below_size (by repeat (first | (with_reducible first | exact HB.out | apply below_alloc | apply pw_below_drewN | apply below_drew1) | exact HB.out))) : w.heap.size ≤ gb144)); clear HB; have HB := n0_; have BK144 := n1_; have GW144 := n2_; have GE144 := n3_; clear n0_ n1_ n2_ n3_; clear hb hbox hg; have hcz12_0 : w11.cell? ⟨gb144, 0, none⟩ = some (.string (⟨#[]⟩ : ByteArray)) := (blk_cell BK144.out 0).trans rfl; have hcz12_1 : w11.cell? ⟨gb144, 1, none⟩ = some (.string (⟨#[]⟩ : ByteArray)) := (blk_cell BK144.out 1).trans rfl; have hcz12_2 : w11.cell? ⟨gb144, 2, none⟩ = some (.bool false) := (blk_cell BK144.out 2).trans rfl; have hfz12_0 := blk_frozen BK144.out 0; have hfz12_1 := blk_frozen BK144.out 1; have hfz12_2 := blk_frozen BK144.out 2; have p145 : 0 ≤ (x14_1 : Int) := of_decide_eq_true (by first | (with_reducible assumption) | assumption); have q145 : x14_1 < (l1.length : Int) := of_decide_eq_true (by first | (with_reducible assumption) | assumption); obtain ⟨ad145, e145, hx145_0, hx145_1, hx145_2⟩ := at_T67 HR1.out x14_1 p145 q145; cases e145; have hn145_0 : ad145.block ≠ gb144 := Nat.ne_of_lt (Nat.lt_of_lt_of_le (by have := World.block_lt_of_cell? _ _ hx145_0; first | rwa [add_block] at this | exact this) GW144.out); have hn145_1 : ad145.block ≠ gb144 := Nat.ne_of_lt (Nat.lt_of_lt_of_le (by have := World.block_lt_of_cell? _ _ hx145_0; first | rwa [add_block] at this | exact this) GW144.out); have hn145_2 : ad145.block ≠ gb144 := Nat.ne_of_lt (Nat.lt_of_lt_of_le (by have := World.block_lt_of_cell? _ _ hx145_0; first | rwa [add_block] at this | exact this) GW144.out); replace hx145_0 := (HB.out.cell (World.block_lt_of_cell? w _ hx145_0)).trans hx145_0; replace hx145_1 := (HB.out.cell (World.block_lt_of_cell? w _ hx145_1)).trans hx145_1; replace hx145_2 := (HB.out.cell (World.block_lt_of_cell? w _ hx145_2)).trans hx145_2; replace hx145_0 := (cell_far (p := ⟨gb144, 0, none⟩) (by first | (rw [add_block]; exact hn145_0) | (show (Addr.add _ _).block ≠ _; rw [add_block]; exact hn145_0) | exact hn145_0) (.string ((rd_T67 l0 x14_1).f0))).trans hx145_0; replace hx145_1 := (cell_far (p := ⟨gb144, 0, none⟩) (by first | (rw [add_block]; exact hn145_0) | (show (Addr.add _ _).block ≠ _; rw [add_block]; exact hn145_0) | exact hn145_0) (.string ((rd_T67 l0 x14_1).f0))).trans hx145_1; replace hx145_2 := (cell_far (p := ⟨gb144, 0, none⟩) (by first | (rw [add_block]; exact hn145_0) | (show (Addr.add _ _).block ≠ _; rw [add_block]; exact hn145_0) | exact hn145_0) (.string ((rd_T67 l0 x14_1).f0))).trans hx145_2; replace hx145_0 := (cell_far (p := ⟨gb144, 1, none⟩) (by first | (rw [add_block]; exact hn145_1) | (show (Addr.add _ _).block ≠ _; rw [add_block]; exact hn145_1) | exact hn145_1) (.string ((rd_T67 l0 x14_1).f1))).trans hx145_0; replace hx145_1 := (cell_far (p := ⟨gb144, 1, none⟩) (by first | (rw [add_block]; exact hn145_1) | (show (Addr.add _ _).block ≠ _; rw [add_block]; exact hn145_1) | exact hn145_1) (.string ((rd_T67 l0 x14_1).f1))).trans hx145_1; replace hx145_2 := (cell_far (p := ⟨gb144, 1, none⟩) (by first | (rw [add_block]; exact hn145_1) | (show (Addr.add _ _).block ≠ _; rw [add_block]; exact hn145_1) | exact hn145_1) (.string ((rd_T67 l0 x14_1).f1))).trans hx145_2; replace hx145_0 := (cell_far (p := ⟨gb144, 2, none⟩) (by first | (rw [add_block]; exact hn145_2) | (show (Addr.add _ _).block ≠ _; rw [add_block]; exact hn145_2) | exact hn145_2) (.bool ((rd_T67 l0 x14_1).f2))).trans hx145_0; replace hx145_1 := (cell_far (p := ⟨gb144, 2, none⟩) (by first | (rw [add_block]; exact hn145_2) | (show (Addr.add _ _).block ≠ _; rw [add_block]; exact hn145_2) | exact hn145_2) (.bool ((rd_T67 l0 x14_1).f2))).trans hx145_1; replace hx145_2 := (cell_far (p := ⟨gb144, 2, none⟩) (by first | (rw [add_block]; exact hn145_2) | (show (Addr.add _ _).block ≠ _; rw [add_block]; exact hn145_2) | exact hn145_2) (.bool ((rd_T67 l0 x14_1).f2))).trans hx145_2; (try have hy145_0 := fun (n_ : Nat) => (show (((((w11.drewN n_).setCell ⟨gb144, 0, none⟩ (.string ((rd_T67 l0 x14_1).f0))).setCell ⟨gb144, 1, none⟩ (.string ((rd_T67 l0 x14_1).f1))).setCell ⟨gb144, 2, none⟩ (.bool ((rd_T67 l0 x14_1).f2)))).cell? _ = some _ from hx145_0)); (try have hy145_1 := fun (n_ : Nat) => (show (((((w11.drewN n_).setCell ⟨gb144, 0, none⟩ (.string ((rd_T67 l0 x14_1).f0))).setCell ⟨gb144, 1, none⟩ (.string ((rd_T67 l0 x14_1).f1))).setCell ⟨gb144, 2, none⟩ (.bool ((rd_T67 l0 x14_1).f2)))).cell? _ = some _ from hx145_1)); (try have hy145_2 := fun (n_ : Nat) => (show (((((w11.drewN n_).setCell ⟨gb144, 0, none⟩ (.string ((rd_T67 l0 x14_1).f0))).setCell ⟨gb144, 1, none⟩ (.string ((rd_T67 l0 x14_1).f1))).setCell ⟨gb144, 2, none⟩ (.bool ((rd_T67 l0 x14_1).f2)))).cell? _ = some _ from hx145_2)); clear hn145_0; clear hn145_1; clear hn145_2; replace p145 := eq_true p145; replace q145 := eq_true q145)))
                  go_roundg k1
                  case measure => have := HK1.out; omega
                  case rel => exact ⟨(wrap64 (x14_1 + 1)), (by first | rfl | (simp; done) | (simp [*]; done) | (simp [isEmpty_bne]; done)), H', ⟨by have := HK1.out; omega⟩, ⟨by repeat (first | (with_reducible first | exact HB.out | apply below_alloc | apply pw_below_drewN | apply below_drew1 | refine below_set ?_ GE144.out) | exact HB.out)⟩⟩
              · rw [if_neg c7] at H
                exact absurd H (by simp)
            · rw [if_neg c6] at H
              exact absurd H (by simp)
          · rw [if_neg c5] at H
            exact absurd H (by simp)
        · rw [if_neg c4] at H
          have c4b0 : decide (x14_1 < (l0.length : Int)) = false := decide_eq_false c4
          clear c4
          obtain rfl := Option.some.inj H
          go_wp2
          repeat (go_quiet (fail); try go_wp2)
          go_ret
          exact ⟨by first | rfl | (simp [errW_none, errW_some] <;> rfl) | (simp [*, errW_none, errW_some] <;> rfl), by repeat (first | (with_reducible first | exact HB.out | apply below_alloc | apply pw_below_drewN | apply below_drew1) | exact HB.out)⟩
  · rw [if_neg c3] at H
    have c3b0 : ((l0.length : Int) == (l1.length : Int)) = false := beq_eq_false_iff_ne.mpr c3
    have c3b1 : ((l0.length : Int) != (l1.length : Int)) = true := bne_iff_ne.mpr c3
    have c3b2 : (l0.length == l1.length) = false := by first | simpa using c3 | (simp at c3 ⊢; omega)
    obtain rfl := Option.some.inj H
    go_enter Try.func87, Try.ntmps87
    go_wp2
    repeat (go_quiet (fail); try go_wp2)
    go_ret
    exact ⟨by first | rfl | (simp [errW_none, errW_some] <;> rfl) | (simp [*, errW_none, errW_some] <;> rfl), by repeat (first | (with_reducible first | exact HB.out | apply below_alloc | apply pw_below_drewN | apply below_drew1) | exact HB.out)⟩

/-! ### glossatorlaw3_journalExample: function 37 -/
def glossatorlaw3_journalExample.f (k : Nat)  : Option (Bool) := (journal_Append.f k (⟨#[]⟩ : ByteArray) (⟨#[107]⟩ : ByteArray) (⟨#[118]⟩ : ByteArray) false).bind fun bt146 => (if bt146.1.size + 1 ≤ 9223372036854775807 then ((journal_Read.f k (bt146.1 ++ (⟨#[0]⟩ : ByteArray))).bind fun bt148 => ((journal_Checksum.f k (⟨#[97]⟩ : ByteArray)).bind fun t153 => (if t153 = 3826002220 then (if bt146.2 = 0 then (if (bt146.1.size : Int) = 10 then (if bt148.2.2 = 0 then (if bt148.2.1 = 10 then ((api_QRecord.f k bt148.1 (([(⟨(⟨#[107]⟩ : ByteArray), (⟨#[118]⟩ : ByteArray), false⟩ : S67)] : List (S67)))).bind fun t157 => (some t157)) else (some false)) else (some false)) else (some false)) else (some false)) else (some false)))) else (none))
theorem glossatorlaw3_journalExample.mono : ∀ k, LeO (glossatorlaw3_journalExample.f k ) (glossatorlaw3_journalExample.f (k + 1) ) := by
  intro  k
  unfold glossatorlaw3_journalExample.f
  repeat' first
      | (with_reducible exact api_QRecord.mono _ _ _)
      | (with_reducible exact journal_Append.mono _ _ _ _ _)
      | (with_reducible exact journal_Checksum.mono _ _)
      | (with_reducible exact journal_Read.mono _ _)
      | (with_reducible exact LeO.refl _)
      | (with_reducible exact LeO.none _)
      | (with_reducible refine LeO.ite ?_ ?_)
      | (with_reducible refine LeO.bind ?_ (fun _ => ?_))
      | exact api_QRecord.mono _ _ _
      | exact journal_Append.mono _ _ _ _ _
      | exact journal_Checksum.mono _ _
      | exact journal_Read.mono _ _
      | exact LeO.none _
      | refine LeO.ite ?_ ?_
      | refine LeO.bind ?_ (fun _ => ?_)
set_option maxHeartbeats 8000000 in
set_option maxRecDepth 100000 in
theorem glossatorlaw3_journalExample.calls (k : Nat)  (r : Bool) (w : World) (h : glossatorlaw3_journalExample.f k  = some r) :
    Calls Try.prog 37 #[] w fun e w' => e = .returned (.bool r) ∧ Below w.heap.size w w' := by
  have hu67 := Try.underlying67
  have HB := Aside0.mk (Below.refl w.heap.size w)
  have H : ((journal_Append.f k (⟨#[]⟩ : ByteArray) (⟨#[107]⟩ : ByteArray) (⟨#[118]⟩ : ByteArray) false).bind fun bt146 => (if bt146.1.size + 1 ≤ 9223372036854775807 then ((journal_Read.f k (bt146.1 ++ (⟨#[0]⟩ : ByteArray))).bind fun bt148 => ((journal_Checksum.f k (⟨#[97]⟩ : ByteArray)).bind fun t153 => (if t153 = 3826002220 then (if bt146.2 = 0 then (if (bt146.1.size : Int) = 10 then (if bt148.2.2 = 0 then (if bt148.2.1 = 10 then ((api_QRecord.f k bt148.1 (([(⟨(⟨#[107]⟩ : ByteArray), (⟨#[118]⟩ : ByteArray), false⟩ : S67)] : List (S67)))).bind fun t157 => (some t157)) else (some false)) else (some false)) else (some false)) else (some false)) else (some false)))) else (none))) = some r := h
  clear h
  replace H := Option.bind_eq_some_iff.mp H
  obtain ⟨⟨t146, t147⟩, A10, H⟩ := H
  replace H : (if t146.size + 1 ≤ 9223372036854775807 then ((journal_Read.f k (t146 ++ (⟨#[0]⟩ : ByteArray))).bind fun bt148 => ((journal_Checksum.f k (⟨#[97]⟩ : ByteArray)).bind fun t153 => (if t153 = 3826002220 then (if t147 = 0 then (if (t146.size : Int) = 10 then (if bt148.2.2 = 0 then (if bt148.2.1 = 10 then ((api_QRecord.f k bt148.1 (([(⟨(⟨#[107]⟩ : ByteArray), (⟨#[118]⟩ : ByteArray), false⟩ : S67)] : List (S67)))).bind fun t157 => (some t157)) else (some false)) else (some false)) else (some false)) else (some false)) else (some false)))) else (none)) = some r := H
  have A1 := Aside0.mk A10
  clear A10
  by_cases c2 : t146.size + 1 ≤ 9223372036854775807
  · rw [if_pos c2] at H
    have c2b0 := eq_true c2
    have c2b1 : decide (t146.size + 1 ≤ 9223372036854775807) = true := decide_eq_true c2
    try have c2b2 : (9223372036854775807 < t146.size + 1) = False := eq_false (Nat.not_lt.2 c2)
    replace H := Option.bind_eq_some_iff.mp H
    obtain ⟨⟨t148, t149, t150⟩, A30, H⟩ := H
    replace H : ((journal_Checksum.f k (⟨#[97]⟩ : ByteArray)).bind fun t153 => (if t153 = 3826002220 then (if t147 = 0 then (if (t146.size : Int) = 10 then (if t150 = 0 then (if t149 = 10 then ((api_QRecord.f k t148 (([(⟨(⟨#[107]⟩ : ByteArray), (⟨#[118]⟩ : ByteArray), false⟩ : S67)] : List (S67)))).bind fun t157 => (some t157)) else (some false)) else (some false)) else (some false)) else (some false)) else (some false))) = some r := H
    have A3 := Aside0.mk A30
    clear A30
    replace H := Option.bind_eq_some_iff.mp H
    obtain ⟨t153, A40, H⟩ := H
    replace H : (if t153 = 3826002220 then (if t147 = 0 then (if (t146.size : Int) = 10 then (if t150 = 0 then (if t149 = 10 then ((api_QRecord.f k t148 (([(⟨(⟨#[107]⟩ : ByteArray), (⟨#[118]⟩ : ByteArray), false⟩ : S67)] : List (S67)))).bind fun t157 => (some t157)) else (some false)) else (some false)) else (some false)) else (some false)) else (some false)) = some r := H
    have A4 := Aside0.mk A40
    clear A40
    by_cases c5 : t153 = 3826002220
    · rw [if_pos c5] at H
      have c5b0 : (t153 == 3826002220) = true := beq_iff_eq.mpr c5
      have c5b1 : (t153 != 3826002220) = false := bne_eq_false_iff_eq.mpr c5
      clear c5
      by_cases c6 : t147 = 0
      · rw [if_pos c6] at H
        have c6b0 : (t147 == 0) = true := beq_iff_eq.mpr c6
        have c6b1 : (t147 != 0) = false := bne_eq_false_iff_eq.mpr c6
        clear c6
        by_cases c7 : (t146.size : Int) = 10
        · rw [if_pos c7] at H
          have c7b0 : ((t146.size : Int) == 10) = true := beq_iff_eq.mpr c7
          have c7b1 : ((t146.size : Int) != 10) = false := bne_eq_false_iff_eq.mpr c7
          clear c7
          by_cases c8 : t150 = 0
          · rw [if_pos c8] at H
            have c8b0 : (t150 == 0) = true := beq_iff_eq.mpr c8
            have c8b1 : (t150 != 0) = false := bne_eq_false_iff_eq.mpr c8
            clear c8
            by_cases c9 : t149 = 10
            · rw [if_pos c9] at H
              have c9b0 : (t149 == 10) = true := beq_iff_eq.mpr c9
              have c9b1 : (t149 != 10) = false := bne_eq_false_iff_eq.mpr c9
              clear c9
              obtain ⟨y154, hy154⟩ : ∃ y_ : List (S67), y_ = (([(⟨(⟨#[107]⟩ : ByteArray), (⟨#[118]⟩ : ByteArray), false⟩ : S67)] : List (S67))) := ⟨_, rfl⟩
              replace H : ((api_QRecord.f k t148 y154).bind fun t157 => (some t157)) = some r := by first | (rw [hy154]; with_reducible exact H) | (have H2_ := (Option.bind_some _ _).symm.trans H; rw [hy154]; with_reducible exact H2_) | (have H2_ := (Option.bind_some _ _).symm.trans H; with_reducible exact H2_) | with_reducible exact H | (rw [hy154]; exact H) | exact H
              have Ny154 := Aside0.mk hy154
              clear hy154
              replace H := Option.bind_eq_some_iff.mp H
              obtain ⟨t157, A100, H⟩ := H
              replace H : (some t157) = some r := H
              have A10 := Aside0.mk A100
              clear A100
              obtain rfl := Option.some.inj H
              go_enter Try.func37, Try.ntmps37
              go_wp2_with (first | ((with_reducible refine gate_callee (f := 38) rfl ?_); refine goesL_ (some 8) rfl rfl Try.func38 (by kernel_rfl) rfl #[.string (⟨#[]⟩ : ByteArray), .agg #[.string (⟨#[107]⟩ : ByteArray), .string (⟨#[118]⟩ : ByteArray), .bool false]] rfl (by (try simp only [List.map_toArray, List.map_cons, List.map_nil]); first | done | rfl | (simp only [List.length_drop, List.length_take]; rfl)) ?_; (with_reducible refine (journal_Append.calls k (⟨#[]⟩ : ByteArray) (⟨#[107]⟩ : ByteArray) (⟨#[118]⟩ : ByteArray) false t146 t147 _ A1.out).mono ?_); rintro e w11 ⟨rfl, hb⟩; refine ⟨_, rfl, ?_⟩; have n0_ := Aside0.mk (below_step (by repeat (first | (with_reducible first | exact HB.out | apply below_alloc | apply pw_below_drewN | apply below_drew1) | exact HB.out)) hb); clear HB; have HB := n0_; clear n0_; (try clear hb); (try clear hb2); (try clear hk); (try clear hi)) | ((with_reducible refine gate_callee (f := 86) rfl ?_); refine goesL_ (some 14) rfl rfl Try.func86 (by kernel_rfl) rfl #[.string (t146 ++ (⟨#[0]⟩ : ByteArray))] rfl (by (try simp only [List.map_toArray, List.map_cons, List.map_nil]); first | done | rfl | (simp only [List.length_drop, List.length_take]; rfl)) ?_; (with_reducible refine (journal_Read.calls k (t146 ++ (⟨#[0]⟩ : ByteArray)) t148 t149 t150 _ A3.out).mono ?_); rintro e w12 ⟨v151, rfl, ho0, hb⟩; refine ⟨_, rfl, ?_⟩; have n0_ := Aside0.mk (Kd.R_lower ho0 (below_size (by repeat (first | (with_reducible first | exact HB.out | apply below_alloc | apply pw_below_drewN | apply below_drew1) | exact HB.out)))); have n1_ := Aside0.mk (below_step (by repeat (first | (with_reducible first | exact HB.out | apply below_alloc | apply pw_below_drewN | apply below_drew1) | exact HB.out)) hb); clear HB; have HO152 := n0_; have HB := n1_; clear n0_ n1_; (try clear hb); (try clear hb2); (try clear hk); (try clear hi); (try clear ho0)) | ((with_reducible refine gate_callee (f := 41) rfl ?_); refine goesL_ (some 18) rfl rfl Try.func41 (by kernel_rfl) rfl #[.string (⟨#[97]⟩ : ByteArray)] rfl (by (try simp only [List.map_toArray, List.map_cons, List.map_nil]); first | done | rfl | (simp only [List.length_drop, List.length_take]; rfl)) ?_; (with_reducible refine (journal_Checksum.calls k (⟨#[97]⟩ : ByteArray) t153 _ A4.out).mono ?_); rintro e w' ⟨rfl, ⟨nd, rfl⟩⟩; refine ⟨_, rfl, ?_⟩) | ((with_reducible refine gate_dst (N := 40) rfl ?_); (try (refine gate_guard (by rfl) ?_; dsimp only)); refine Kd.R_lit k67 _ 67 ?hg (N := 40) ?hd (xs := ([(⟨(⟨#[107]⟩ : ByteArray), (⟨#[118]⟩ : ByteArray), false⟩ : S67)] : List (S67))) (inner := [.string (⟨#[107]⟩ : ByteArray), .string (⟨#[118]⟩ : ByteArray), .bool false]) (ok := fun _ => True) (okp := fun _ => True) ?hr ?hp (fun _ hk => hk) trivial (Below.refl _ _) (Nat.le_refl _) (by simp) ?_; (case hd => rfl); (case hg => rfl); (case hr => first | (go_simp; done) | (go_simp; rfl)); (case hp => exact (Reps.c3 (show Kd.M k67 _ _ _ (⟨(⟨#[107]⟩ : ByteArray), (⟨#[118]⟩ : ByteArray), false⟩ : S67) [.string (⟨#[107]⟩ : ByteArray), .string (⟨#[118]⟩ : ByteArray), .bool false] from (k67_mkM _ _ _ (⟨(⟨#[107]⟩ : ByteArray), (⟨#[118]⟩ : ByteArray), false⟩ : S67) )) (Reps.none _ _))); intro v155 w13 ho14 hb hg_ hnew_; clear hg_ hnew_; (first | rw [← Ny154.out] at ho14 | (simp only [Int.reduceToNat] at ho14; rw [← Ny154.out] at ho14)); have n0_ := Aside0.mk (Kd.R_elder' (by (with_reducible repeat (first | apply Kd.R_alloc | apply Kd.R_drewN | apply Kd.R_drew)); exact HO152.out) (Kd.R_base ho14) hb); have n1_ := Aside0.mk (Kd.R_lower (Kd.R_new' ho14 (Kd.R_lt (by (with_reducible repeat (first | apply Kd.R_alloc | apply Kd.R_drewN | apply Kd.R_drew)); exact HO152.out))) (below_size (by repeat (first | (with_reducible first | exact HB.out | apply below_alloc | apply pw_below_drewN | apply below_drew1) | exact HB.out)))); have n2_ := Aside0.mk (below_step (by repeat (first | (with_reducible first | exact HB.out | apply below_alloc | apply pw_below_drewN | apply below_drew1) | exact HB.out)) hb); clear HO152; clear HB; have HO152 := n0_; have HO156 := n1_; have HB := n2_; clear n0_ n1_ n2_; clear hb ho14; obtain ⟨Ao15, co15, eo15⟩ := Kd.R_slice HO152.out; subst eo15; obtain ⟨Ao16, co16, eo16⟩ := Kd.R_slice HO156.out; subst eo16) | (go_at_call 87; (with_reducible refine (api_QRecord.calls k _ _ t148 _ _ y154 t157 _ ?side1 ?side2 ?side3 ?side4 A10.out).mono ?_); (case side1 => repeat (first | exact (Kd.R_reads' HO152.out).2.2 | (with_reducible refine Kd.C_alloc ?_ _) | (with_reducible refine Kd.C_drewN ?_ _) | (with_reducible refine Kd.C_drew ?_))); (case side2 => exact (Kd.R_reads' HO152.out).2.1); (case side3 => repeat (first | exact (Kd.R_reads' HO156.out).2.2 | (with_reducible refine Kd.C_alloc ?_ _) | (with_reducible refine Kd.C_drewN ?_ _) | (with_reducible refine Kd.C_drew ?_))); (case side4 => exact (Kd.R_reads' HO156.out).2.1); rintro e w17 ⟨rfl, hb⟩; have n0_ := Aside0.mk (Kd.R_below (by (with_reducible repeat (first | apply Kd.R_alloc | apply Kd.R_drewN | apply Kd.R_drew)); exact HO152.out) hb); have n1_ := Aside0.mk (Kd.R_below (by (with_reducible repeat (first | apply Kd.R_alloc | apply Kd.R_drewN | apply Kd.R_drew)); exact HO156.out) hb); have n2_ := Aside0.mk (below_step (by repeat (first | (with_reducible first | exact HB.out | apply below_alloc | apply pw_below_drewN | apply below_drew1) | exact HB.out)) hb); clear HO152; clear HO156; clear HB; have HO152 := n0_; have HO156 := n1_; have HB := n2_; clear n0_ n1_ n2_; (try clear hb); (try clear hb2); (try clear hk); (try clear hi)))
              go_ret
              exact ⟨by first | rfl | (simp [errW_none, errW_some] <;> rfl) | (simp [*, errW_none, errW_some] <;> rfl), by repeat (first | (with_reducible first | exact HB.out | apply below_alloc | apply pw_below_drewN | apply below_drew1) | exact HB.out)⟩
            · rw [if_neg c9] at H
              have c9b0 : (t149 == 10) = false := beq_eq_false_iff_ne.mpr c9
              have c9b1 : (t149 != 10) = true := bne_iff_ne.mpr c9
              obtain rfl := Option.some.inj H
              go_enter Try.func37, Try.ntmps37
              go_wp2_with (first | ((with_reducible refine gate_callee (f := 38) rfl ?_); refine goesL_ (some 8) rfl rfl Try.func38 (by kernel_rfl) rfl #[.string (⟨#[]⟩ : ByteArray), .agg #[.string (⟨#[107]⟩ : ByteArray), .string (⟨#[118]⟩ : ByteArray), .bool false]] rfl (by (try simp only [List.map_toArray, List.map_cons, List.map_nil]); first | done | rfl | (simp only [List.length_drop, List.length_take]; rfl)) ?_; (with_reducible refine (journal_Append.calls k (⟨#[]⟩ : ByteArray) (⟨#[107]⟩ : ByteArray) (⟨#[118]⟩ : ByteArray) false t146 t147 _ A1.out).mono ?_); rintro e w18 ⟨rfl, hb⟩; refine ⟨_, rfl, ?_⟩; have n0_ := Aside0.mk (below_step (by repeat (first | (with_reducible first | exact HB.out | apply below_alloc | apply pw_below_drewN | apply below_drew1) | exact HB.out)) hb); clear HB; have HB := n0_; clear n0_; (try clear hb); (try clear hb2); (try clear hk); (try clear hi)) | ((with_reducible refine gate_callee (f := 86) rfl ?_); refine goesL_ (some 14) rfl rfl Try.func86 (by kernel_rfl) rfl #[.string (t146 ++ (⟨#[0]⟩ : ByteArray))] rfl (by (try simp only [List.map_toArray, List.map_cons, List.map_nil]); first | done | rfl | (simp only [List.length_drop, List.length_take]; rfl)) ?_; (with_reducible refine (journal_Read.calls k (t146 ++ (⟨#[0]⟩ : ByteArray)) t148 t149 t150 _ A3.out).mono ?_); rintro e w19 ⟨v151, rfl, ho0, hb⟩; refine ⟨_, rfl, ?_⟩; have n0_ := Aside0.mk (Kd.R_lower ho0 (below_size (by repeat (first | (with_reducible first | exact HB.out | apply below_alloc | apply pw_below_drewN | apply below_drew1) | exact HB.out)))); have n1_ := Aside0.mk (below_step (by repeat (first | (with_reducible first | exact HB.out | apply below_alloc | apply pw_below_drewN | apply below_drew1) | exact HB.out)) hb); clear HB; have HO152 := n0_; have HB := n1_; clear n0_ n1_; (try clear hb); (try clear hb2); (try clear hk); (try clear hi); (try clear ho0)) | ((with_reducible refine gate_callee (f := 41) rfl ?_); refine goesL_ (some 18) rfl rfl Try.func41 (by kernel_rfl) rfl #[.string (⟨#[97]⟩ : ByteArray)] rfl (by (try simp only [List.map_toArray, List.map_cons, List.map_nil]); first | done | rfl | (simp only [List.length_drop, List.length_take]; rfl)) ?_; (with_reducible refine (journal_Checksum.calls k (⟨#[97]⟩ : ByteArray) t153 _ A4.out).mono ?_); rintro e w' ⟨rfl, ⟨nd, rfl⟩⟩; refine ⟨_, rfl, ?_⟩))
              go_ret
              exact ⟨by first | rfl | (simp [errW_none, errW_some] <;> rfl) | (simp [*, errW_none, errW_some] <;> rfl), by repeat (first | (with_reducible first | exact HB.out | apply below_alloc | apply pw_below_drewN | apply below_drew1) | exact HB.out)⟩
          · rw [if_neg c8] at H
            have c8b0 : (t150 == 0) = false := beq_eq_false_iff_ne.mpr c8
            have c8b1 : (t150 != 0) = true := bne_iff_ne.mpr c8
            obtain rfl := Option.some.inj H
            go_enter Try.func37, Try.ntmps37
            go_wp2_with (first | ((with_reducible refine gate_callee (f := 38) rfl ?_); refine goesL_ (some 8) rfl rfl Try.func38 (by kernel_rfl) rfl #[.string (⟨#[]⟩ : ByteArray), .agg #[.string (⟨#[107]⟩ : ByteArray), .string (⟨#[118]⟩ : ByteArray), .bool false]] rfl (by (try simp only [List.map_toArray, List.map_cons, List.map_nil]); first | done | rfl | (simp only [List.length_drop, List.length_take]; rfl)) ?_; (with_reducible refine (journal_Append.calls k (⟨#[]⟩ : ByteArray) (⟨#[107]⟩ : ByteArray) (⟨#[118]⟩ : ByteArray) false t146 t147 _ A1.out).mono ?_); rintro e w20 ⟨rfl, hb⟩; refine ⟨_, rfl, ?_⟩; have n0_ := Aside0.mk (below_step (by repeat (first | (with_reducible first | exact HB.out | apply below_alloc | apply pw_below_drewN | apply below_drew1) | exact HB.out)) hb); clear HB; have HB := n0_; clear n0_; (try clear hb); (try clear hb2); (try clear hk); (try clear hi)) | ((with_reducible refine gate_callee (f := 86) rfl ?_); refine goesL_ (some 14) rfl rfl Try.func86 (by kernel_rfl) rfl #[.string (t146 ++ (⟨#[0]⟩ : ByteArray))] rfl (by (try simp only [List.map_toArray, List.map_cons, List.map_nil]); first | done | rfl | (simp only [List.length_drop, List.length_take]; rfl)) ?_; (with_reducible refine (journal_Read.calls k (t146 ++ (⟨#[0]⟩ : ByteArray)) t148 t149 t150 _ A3.out).mono ?_); rintro e w21 ⟨v151, rfl, ho0, hb⟩; refine ⟨_, rfl, ?_⟩; have n0_ := Aside0.mk (Kd.R_lower ho0 (below_size (by repeat (first | (with_reducible first | exact HB.out | apply below_alloc | apply pw_below_drewN | apply below_drew1) | exact HB.out)))); have n1_ := Aside0.mk (below_step (by repeat (first | (with_reducible first | exact HB.out | apply below_alloc | apply pw_below_drewN | apply below_drew1) | exact HB.out)) hb); clear HB; have HO152 := n0_; have HB := n1_; clear n0_ n1_; (try clear hb); (try clear hb2); (try clear hk); (try clear hi); (try clear ho0)) | ((with_reducible refine gate_callee (f := 41) rfl ?_); refine goesL_ (some 18) rfl rfl Try.func41 (by kernel_rfl) rfl #[.string (⟨#[97]⟩ : ByteArray)] rfl (by (try simp only [List.map_toArray, List.map_cons, List.map_nil]); first | done | rfl | (simp only [List.length_drop, List.length_take]; rfl)) ?_; (with_reducible refine (journal_Checksum.calls k (⟨#[97]⟩ : ByteArray) t153 _ A4.out).mono ?_); rintro e w' ⟨rfl, ⟨nd, rfl⟩⟩; refine ⟨_, rfl, ?_⟩))
            go_ret
            exact ⟨by first | rfl | (simp [errW_none, errW_some] <;> rfl) | (simp [*, errW_none, errW_some] <;> rfl), by repeat (first | (with_reducible first | exact HB.out | apply below_alloc | apply pw_below_drewN | apply below_drew1) | exact HB.out)⟩
        · rw [if_neg c7] at H
          have c7b0 : ((t146.size : Int) == 10) = false := beq_eq_false_iff_ne.mpr c7
          have c7b1 : ((t146.size : Int) != 10) = true := bne_iff_ne.mpr c7
          obtain rfl := Option.some.inj H
          go_enter Try.func37, Try.ntmps37
          go_wp2_with (first | ((with_reducible refine gate_callee (f := 38) rfl ?_); refine goesL_ (some 8) rfl rfl Try.func38 (by kernel_rfl) rfl #[.string (⟨#[]⟩ : ByteArray), .agg #[.string (⟨#[107]⟩ : ByteArray), .string (⟨#[118]⟩ : ByteArray), .bool false]] rfl (by (try simp only [List.map_toArray, List.map_cons, List.map_nil]); first | done | rfl | (simp only [List.length_drop, List.length_take]; rfl)) ?_; (with_reducible refine (journal_Append.calls k (⟨#[]⟩ : ByteArray) (⟨#[107]⟩ : ByteArray) (⟨#[118]⟩ : ByteArray) false t146 t147 _ A1.out).mono ?_); rintro e w22 ⟨rfl, hb⟩; refine ⟨_, rfl, ?_⟩; have n0_ := Aside0.mk (below_step (by repeat (first | (with_reducible first | exact HB.out | apply below_alloc | apply pw_below_drewN | apply below_drew1) | exact HB.out)) hb); clear HB; have HB := n0_; clear n0_; (try clear hb); (try clear hb2); (try clear hk); (try clear hi)) | ((with_reducible refine gate_callee (f := 86) rfl ?_); refine goesL_ (some 14) rfl rfl Try.func86 (by kernel_rfl) rfl #[.string (t146 ++ (⟨#[0]⟩ : ByteArray))] rfl (by (try simp only [List.map_toArray, List.map_cons, List.map_nil]); first | done | rfl | (simp only [List.length_drop, List.length_take]; rfl)) ?_; (with_reducible refine (journal_Read.calls k (t146 ++ (⟨#[0]⟩ : ByteArray)) t148 t149 t150 _ A3.out).mono ?_); rintro e w23 ⟨v151, rfl, ho0, hb⟩; refine ⟨_, rfl, ?_⟩; have n0_ := Aside0.mk (Kd.R_lower ho0 (below_size (by repeat (first | (with_reducible first | exact HB.out | apply below_alloc | apply pw_below_drewN | apply below_drew1) | exact HB.out)))); have n1_ := Aside0.mk (below_step (by repeat (first | (with_reducible first | exact HB.out | apply below_alloc | apply pw_below_drewN | apply below_drew1) | exact HB.out)) hb); clear HB; have HO152 := n0_; have HB := n1_; clear n0_ n1_; (try clear hb); (try clear hb2); (try clear hk); (try clear hi); (try clear ho0)) | ((with_reducible refine gate_callee (f := 41) rfl ?_); refine goesL_ (some 18) rfl rfl Try.func41 (by kernel_rfl) rfl #[.string (⟨#[97]⟩ : ByteArray)] rfl (by (try simp only [List.map_toArray, List.map_cons, List.map_nil]); first | done | rfl | (simp only [List.length_drop, List.length_take]; rfl)) ?_; (with_reducible refine (journal_Checksum.calls k (⟨#[97]⟩ : ByteArray) t153 _ A4.out).mono ?_); rintro e w' ⟨rfl, ⟨nd, rfl⟩⟩; refine ⟨_, rfl, ?_⟩))
          go_ret
          exact ⟨by first | rfl | (simp [errW_none, errW_some] <;> rfl) | (simp [*, errW_none, errW_some] <;> rfl), by repeat (first | (with_reducible first | exact HB.out | apply below_alloc | apply pw_below_drewN | apply below_drew1) | exact HB.out)⟩
      · rw [if_neg c6] at H
        have c6b0 : (t147 == 0) = false := beq_eq_false_iff_ne.mpr c6
        have c6b1 : (t147 != 0) = true := bne_iff_ne.mpr c6
        obtain rfl := Option.some.inj H
        go_enter Try.func37, Try.ntmps37
        go_wp2_with (first | ((with_reducible refine gate_callee (f := 38) rfl ?_); refine goesL_ (some 8) rfl rfl Try.func38 (by kernel_rfl) rfl #[.string (⟨#[]⟩ : ByteArray), .agg #[.string (⟨#[107]⟩ : ByteArray), .string (⟨#[118]⟩ : ByteArray), .bool false]] rfl (by (try simp only [List.map_toArray, List.map_cons, List.map_nil]); first | done | rfl | (simp only [List.length_drop, List.length_take]; rfl)) ?_; (with_reducible refine (journal_Append.calls k (⟨#[]⟩ : ByteArray) (⟨#[107]⟩ : ByteArray) (⟨#[118]⟩ : ByteArray) false t146 t147 _ A1.out).mono ?_); rintro e w24 ⟨rfl, hb⟩; refine ⟨_, rfl, ?_⟩; have n0_ := Aside0.mk (below_step (by repeat (first | (with_reducible first | exact HB.out | apply below_alloc | apply pw_below_drewN | apply below_drew1) | exact HB.out)) hb); clear HB; have HB := n0_; clear n0_; (try clear hb); (try clear hb2); (try clear hk); (try clear hi)) | ((with_reducible refine gate_callee (f := 86) rfl ?_); refine goesL_ (some 14) rfl rfl Try.func86 (by kernel_rfl) rfl #[.string (t146 ++ (⟨#[0]⟩ : ByteArray))] rfl (by (try simp only [List.map_toArray, List.map_cons, List.map_nil]); first | done | rfl | (simp only [List.length_drop, List.length_take]; rfl)) ?_; (with_reducible refine (journal_Read.calls k (t146 ++ (⟨#[0]⟩ : ByteArray)) t148 t149 t150 _ A3.out).mono ?_); rintro e w25 ⟨v151, rfl, ho0, hb⟩; refine ⟨_, rfl, ?_⟩; have n0_ := Aside0.mk (Kd.R_lower ho0 (below_size (by repeat (first | (with_reducible first | exact HB.out | apply below_alloc | apply pw_below_drewN | apply below_drew1) | exact HB.out)))); have n1_ := Aside0.mk (below_step (by repeat (first | (with_reducible first | exact HB.out | apply below_alloc | apply pw_below_drewN | apply below_drew1) | exact HB.out)) hb); clear HB; have HO152 := n0_; have HB := n1_; clear n0_ n1_; (try clear hb); (try clear hb2); (try clear hk); (try clear hi); (try clear ho0)) | ((with_reducible refine gate_callee (f := 41) rfl ?_); refine goesL_ (some 18) rfl rfl Try.func41 (by kernel_rfl) rfl #[.string (⟨#[97]⟩ : ByteArray)] rfl (by (try simp only [List.map_toArray, List.map_cons, List.map_nil]); first | done | rfl | (simp only [List.length_drop, List.length_take]; rfl)) ?_; (with_reducible refine (journal_Checksum.calls k (⟨#[97]⟩ : ByteArray) t153 _ A4.out).mono ?_); rintro e w' ⟨rfl, ⟨nd, rfl⟩⟩; refine ⟨_, rfl, ?_⟩))
        go_ret
        exact ⟨by first | rfl | (simp [errW_none, errW_some] <;> rfl) | (simp [*, errW_none, errW_some] <;> rfl), by repeat (first | (with_reducible first | exact HB.out | apply below_alloc | apply pw_below_drewN | apply below_drew1) | exact HB.out)⟩
    · rw [if_neg c5] at H
      have c5b0 : (t153 == 3826002220) = false := beq_eq_false_iff_ne.mpr c5
      have c5b1 : (t153 != 3826002220) = true := bne_iff_ne.mpr c5
      obtain rfl := Option.some.inj H
      go_enter Try.func37, Try.ntmps37
      go_wp2_with (first | ((with_reducible refine gate_callee (f := 38) rfl ?_); refine goesL_ (some 8) rfl rfl Try.func38 (by kernel_rfl) rfl #[.string (⟨#[]⟩ : ByteArray), .agg #[.string (⟨#[107]⟩ : ByteArray), .string (⟨#[118]⟩ : ByteArray), .bool false]] rfl (by (try simp only [List.map_toArray, List.map_cons, List.map_nil]); first | done | rfl | (simp only [List.length_drop, List.length_take]; rfl)) ?_; (with_reducible refine (journal_Append.calls k (⟨#[]⟩ : ByteArray) (⟨#[107]⟩ : ByteArray) (⟨#[118]⟩ : ByteArray) false t146 t147 _ A1.out).mono ?_); rintro e w26 ⟨rfl, hb⟩; refine ⟨_, rfl, ?_⟩; have n0_ := Aside0.mk (below_step (by repeat (first | (with_reducible first | exact HB.out | apply below_alloc | apply pw_below_drewN | apply below_drew1) | exact HB.out)) hb); clear HB; have HB := n0_; clear n0_; (try clear hb); (try clear hb2); (try clear hk); (try clear hi)) | ((with_reducible refine gate_callee (f := 86) rfl ?_); refine goesL_ (some 14) rfl rfl Try.func86 (by kernel_rfl) rfl #[.string (t146 ++ (⟨#[0]⟩ : ByteArray))] rfl (by (try simp only [List.map_toArray, List.map_cons, List.map_nil]); first | done | rfl | (simp only [List.length_drop, List.length_take]; rfl)) ?_; (with_reducible refine (journal_Read.calls k (t146 ++ (⟨#[0]⟩ : ByteArray)) t148 t149 t150 _ A3.out).mono ?_); rintro e w27 ⟨v151, rfl, ho0, hb⟩; refine ⟨_, rfl, ?_⟩; have n0_ := Aside0.mk (Kd.R_lower ho0 (below_size (by repeat (first | (with_reducible first | exact HB.out | apply below_alloc | apply pw_below_drewN | apply below_drew1) | exact HB.out)))); have n1_ := Aside0.mk (below_step (by repeat (first | (with_reducible first | exact HB.out | apply below_alloc | apply pw_below_drewN | apply below_drew1) | exact HB.out)) hb); clear HB; have HO152 := n0_; have HB := n1_; clear n0_ n1_; (try clear hb); (try clear hb2); (try clear hk); (try clear hi); (try clear ho0)) | ((with_reducible refine gate_callee (f := 41) rfl ?_); refine goesL_ (some 18) rfl rfl Try.func41 (by kernel_rfl) rfl #[.string (⟨#[97]⟩ : ByteArray)] rfl (by (try simp only [List.map_toArray, List.map_cons, List.map_nil]); first | done | rfl | (simp only [List.length_drop, List.length_take]; rfl)) ?_; (with_reducible refine (journal_Checksum.calls k (⟨#[97]⟩ : ByteArray) t153 _ A4.out).mono ?_); rintro e w' ⟨rfl, ⟨nd, rfl⟩⟩; refine ⟨_, rfl, ?_⟩))
      go_ret
      exact ⟨by first | rfl | (simp [errW_none, errW_some] <;> rfl) | (simp [*, errW_none, errW_some] <;> rfl), by repeat (first | (with_reducible first | exact HB.out | apply below_alloc | apply pw_below_drewN | apply below_drew1) | exact HB.out)⟩
  · rw [if_neg c2] at H
    exact absurd H (by simp)

/-! ### glossatorref3_CheckRecord: function 39 -/
def glossatorref3_CheckRecord.j0 : Nat → Bool → ByteArray → ByteArray → Bool → Option (Int)
  | 0, _, _, _, _ => none
  | k + 1, x14, x159000, x159001, x159002 => if x14 = true then (some 3) else (if (x159000.size : Int) > 60 then (some 2) else (if (x159001.size : Int) > 3000 then (some 2) else (some 0)))
def glossatorref3_CheckRecord.f (k : Nat) (a0_0 : ByteArray) (a0_1 : ByteArray) (a0_2 : Bool) : Option (Int) := if a0_0.toList = ([] : List UInt8) then (glossatorref3_CheckRecord.j0 k true a0_0 a0_1 a0_2) else (if a0_2 = true then (glossatorref3_CheckRecord.j0 k (a0_1.toList != ([] : List UInt8)) a0_0 a0_1 a0_2) else (glossatorref3_CheckRecord.j0 k false a0_0 a0_1 a0_2))
theorem glossatorref3_CheckRecord.mono_l : ∀ k, (∀ y0 y1 y2 y3, LeO (glossatorref3_CheckRecord.j0 k y0 y1 y2 y3) (glossatorref3_CheckRecord.j0 (k + 1) y0 y1 y2 y3))
  | 0 => fun _ _ _ _ r h => by simp [glossatorref3_CheckRecord.j0] at h
  | k + 1 => by
    have ih0 := glossatorref3_CheckRecord.mono_l k
    · intro y0 y1 y2 y3
      unfold glossatorref3_CheckRecord.j0
      repeat' first
      | (with_reducible exact ih0 _ _ _ _)
      | (with_reducible exact LeO.refl _)
      | (with_reducible exact LeO.none _)
      | (with_reducible refine LeO.ite ?_ ?_)
      | (with_reducible refine LeO.bind ?_ (fun _ => ?_))
      | exact ih0 _ _ _ _
      | exact LeO.none _
      | refine LeO.ite ?_ ?_
      | refine LeO.bind ?_ (fun _ => ?_)
theorem glossatorref3_CheckRecord.mono : ∀ a0 a1 a2 k, LeO (glossatorref3_CheckRecord.f k a0 a1 a2) (glossatorref3_CheckRecord.f (k + 1) a0 a1 a2) := by
  intro a0 a1 a2 k
  have ih0 := glossatorref3_CheckRecord.mono_l k
  unfold glossatorref3_CheckRecord.f
  repeat' first
      | (with_reducible exact ih0 _ _ _ _)
      | (with_reducible exact LeO.refl _)
      | (with_reducible exact LeO.none _)
      | (with_reducible refine LeO.ite ?_ ?_)
      | (with_reducible refine LeO.bind ?_ (fun _ => ?_))
      | exact ih0 _ _ _ _
      | exact LeO.none _
      | refine LeO.ite ?_ ?_
      | refine LeO.bind ?_ (fun _ => ?_)
set_option maxHeartbeats 8000000 in
set_option maxRecDepth 100000 in
theorem glossatorref3_CheckRecord.calls (k : Nat) (a0_0 : ByteArray) (a0_1 : ByteArray) (a0_2 : Bool) (r : Int) (w : World) (h : glossatorref3_CheckRecord.f k a0_0 a0_1 a0_2 = some r) :
    Calls Try.prog 39 #[.agg #[.string a0_0, .string a0_1, .bool a0_2]] w fun e w' => e = .returned (.int .i64 r) ∧ Below w.heap.size w w' := by
  have hu67 := Try.underlying67
  have HB := Aside0.mk (Below.refl w.heap.size w)
  have H : (if a0_0.toList = ([] : List UInt8) then (glossatorref3_CheckRecord.j0 k true a0_0 a0_1 a0_2) else (if a0_2 = true then (glossatorref3_CheckRecord.j0 k (a0_1.toList != ([] : List UInt8)) a0_0 a0_1 a0_2) else (glossatorref3_CheckRecord.j0 k false a0_0 a0_1 a0_2))) = some r := h
  clear h
  have HC2 := Aside0.mk H
  clear H
  go_enter Try.func39, Try.ntmps39
  go_upto_region 1 with (first | ((with_reducible refine gate_dst (N := 1) rfl ?_); (try (refine gate_guard (by rfl) ?_; dsimp only)); refine box_event ?hg (N := 1) ?hd (cs := #[.string a0_0, .string a0_1, .bool a0_2]) (t := 67) ?hr ?_; (case hd => rfl); (case hg => rfl); (case hr => first | (go_simp; done) | (go_simp; rfl)); intro gb158 hg w3 hbox hb; have n0_ := Aside0.mk (below_step (by repeat (first | (with_reducible first | exact HB.out | apply below_alloc | apply pw_below_drewN | apply below_drew1) | exact HB.out)) hb); have n1_ := Aside0.mk (hbox); have n2_ := Aside0.mk ((by rw [hg]; exact (below_size (by repeat (first | (with_reducible first | exact HB.out | apply below_alloc | apply pw_below_drewN | apply below_drew1) | exact HB.out))) : w.heap.size ≤ gb158)); have n3_ := Aside0.mk ((by rw [hg]; exact (below_size (by repeat (first | (with_reducible first | exact HB.out | apply below_alloc | apply pw_below_drewN | apply below_drew1) | exact HB.out))) : w.heap.size ≤ gb158)); clear HB; have HB := n0_; have BK158 := n1_; have GW158 := n2_; have GE158 := n3_; clear n0_ n1_ n2_ n3_; clear hb hbox hg))
  (try simp only [Act.put, List.setIfInBounds_toArray, List.set_cons_zero, List.set_cons_succ])
  go_cut [14] (fun v14 wc => ∃ (kq : Nat) (x14_1 : Bool), v14 = .bool x14_1 ∧ Aside0 (glossatorref3_CheckRecord.j0 kq x14_1 a0_0 a0_1 a0_2 = some r) ∧ Aside0 (kq ≤ k) ∧ Aside0 (wc.heap[gb158]? = some (.cells #[.string a0_0, .string a0_1, .bool a0_2] 67 (0, 0))) ∧ Aside0 (Below w.heap.size w wc))
  case first =>
    have H := HC2.out
    clear HC2
    by_cases c4 : a0_0.toList = ([] : List UInt8)
    · rw [if_pos c4] at H
      have c4b0 : (a0_0.toList == ([] : List UInt8)) = true := beq_iff_eq.mpr c4
      have c4b1 : (a0_0.toList != ([] : List UInt8)) = false := bne_eq_false_iff_eq.mpr c4
      clear c4
      (first | rw [c4b0] | (simp only [i64_w, i32_w]; rw [c4b0]) | skip)
      have H' := Aside0.mk H
      clear H
      have hcz5_0 : w3.cell? ⟨gb158, 0, none⟩ = some (.string a0_0) := (blk_cell BK158.out 0).trans rfl
      have hcz5_1 : w3.cell? ⟨gb158, 1, none⟩ = some (.string a0_1) := (blk_cell BK158.out 1).trans rfl
      have hcz5_2 : w3.cell? ⟨gb158, 2, none⟩ = some (.bool a0_2) := (blk_cell BK158.out 2).trans rfl
      have hfz5_0 := blk_frozen BK158.out 0
      have hfz5_1 := blk_frozen BK158.out 1
      have hfz5_2 := blk_frozen BK158.out 2
      go_wp2
      go_meet
      case rel => exact ⟨_, (true), (by first | rfl | (simp; done) | (simp [*]; done) | (simp [isEmpty_bne]; done)), H', ⟨by first | omega | exact Nat.le_refl _⟩, ⟨by (with_reducible repeat (first | refine blk_drewN ?_ _ | refine blk_drew ?_ | refine blk_alloc ?_ _)); exact BK158.out⟩, ⟨by repeat (first | (with_reducible first | exact HB.out | apply below_alloc | apply pw_below_drewN | apply below_drew1 | refine below_set ?_ GE158.out) | exact HB.out)⟩⟩
    · rw [if_neg c4] at H
      have c4b0 : (a0_0.toList == ([] : List UInt8)) = false := beq_eq_false_iff_ne.mpr c4
      have c4b1 : (a0_0.toList != ([] : List UInt8)) = true := bne_iff_ne.mpr c4
      (first | rw [c4b0] | (simp only [i64_w, i32_w]; rw [c4b0]) | skip)
      by_cases c6 : a0_2 = true
      · subst c6
        have H1 : (glossatorref3_CheckRecord.j0 k (a0_1.toList != ([] : List UInt8)) a0_0 a0_1 true) = some r := by rw [if_pos rfl] at H; exact H
        clear H
        have H := H1
        clear H1
        have H' := Aside0.mk H
        clear H
        have hcz7_0 : w3.cell? ⟨gb158, 0, none⟩ = some (.string a0_0) := (blk_cell BK158.out 0).trans rfl
        have hcz7_1 : w3.cell? ⟨gb158, 1, none⟩ = some (.string a0_1) := (blk_cell BK158.out 1).trans rfl
        have hcz7_2 : w3.cell? ⟨gb158, 2, none⟩ = some (.bool true) := (blk_cell BK158.out 2).trans rfl
        have hfz7_0 := blk_frozen BK158.out 0
        have hfz7_1 := blk_frozen BK158.out 1
        have hfz7_2 := blk_frozen BK158.out 2
        go_wp2
        go_meet
        case rel => exact ⟨_, ((a0_1.toList != ([] : List UInt8))), (by first | rfl | (simp; done) | (simp [*]; done) | (simp [isEmpty_bne]; done)), H', ⟨by first | omega | exact Nat.le_refl _⟩, ⟨by (with_reducible repeat (first | refine blk_drewN ?_ _ | refine blk_drew ?_ | refine blk_alloc ?_ _)); exact BK158.out⟩, ⟨by repeat (first | (with_reducible first | exact HB.out | apply below_alloc | apply pw_below_drewN | apply below_drew1 | refine below_set ?_ GE158.out) | exact HB.out)⟩⟩
      · replace c6 := Bool.eq_false_iff.mpr c6
        subst c6
        have H1 : (glossatorref3_CheckRecord.j0 k false a0_0 a0_1 false) = some r := by rw [if_neg (show ¬ (false = true) by decide)] at H; exact H
        clear H
        have H := H1
        clear H1
        have H' := Aside0.mk H
        clear H
        have hcz8_0 : w3.cell? ⟨gb158, 0, none⟩ = some (.string a0_0) := (blk_cell BK158.out 0).trans rfl
        have hcz8_1 : w3.cell? ⟨gb158, 1, none⟩ = some (.string a0_1) := (blk_cell BK158.out 1).trans rfl
        have hcz8_2 : w3.cell? ⟨gb158, 2, none⟩ = some (.bool false) := (blk_cell BK158.out 2).trans rfl
        have hfz8_0 := blk_frozen BK158.out 0
        have hfz8_1 := blk_frozen BK158.out 1
        have hfz8_2 := blk_frozen BK158.out 2
        go_wp2
        go_meet
        case rel => exact ⟨_, (false), (by first | rfl | (simp; done) | (simp [*]; done) | (simp [isEmpty_bne]; done)), H', ⟨by first | omega | exact Nat.le_refl _⟩, ⟨by (with_reducible repeat (first | refine blk_drewN ?_ _ | refine blk_drew ?_ | refine blk_alloc ?_ _)); exact BK158.out⟩, ⟨by repeat (first | (with_reducible first | exact HB.out | apply below_alloc | apply pw_below_drewN | apply below_drew1 | refine below_set ?_ GE158.out) | exact HB.out)⟩⟩
  case rest =>
    clear HC2
    try clear p2
    try clear c3
    try clear c4
    try clear c4b0
    try clear c4b1
    try clear c6
    try clear hcz5_0
    try clear hcz5_1
    try clear hcz5_2
    try clear hcz7_0
    try clear hcz7_1
    try clear hcz7_2
    try clear hcz8_0
    try clear hcz8_1
    try clear hcz8_2
    try clear hfz5_0
    try clear hfz5_1
    try clear hfz5_2
    try clear hfz7_0
    try clear hfz7_1
    try clear hfz7_2
    try clear hfz8_0
    try clear hfz8_1
    try clear hfz8_2
    obtain ⟨kq, x14_1, rfl, HA, HJ1, BK158, HB⟩ := hcut
    cases kq with
    | zero => exact absurd HA.out (by simp [glossatorref3_CheckRecord.j0])
    | succ kj1 =>
      have H := HA.out
      clear HA
      simp only [glossatorref3_CheckRecord.j0] at H
      by_cases c9 : x14_1 = true
      · subst c9
        have H1 : (some 3) = some r := by rw [if_pos rfl] at H; exact H
        clear H
        have H := H1
        clear H1
        obtain rfl := Option.some.inj H
        go_wp2
        go_ret
        exact ⟨by first | rfl | (simp [errW_none, errW_some] <;> rfl) | (simp [*, errW_none, errW_some] <;> rfl), by repeat (first | (with_reducible first | exact HB.out | apply below_alloc | apply pw_below_drewN | apply below_drew1 | refine below_set ?_ GE158.out) | exact HB.out)⟩
      · replace c9 := Bool.eq_false_iff.mpr c9
        subst c9
        have H1 : (if (a0_0.size : Int) > 60 then (some 2) else (if (a0_1.size : Int) > 3000 then (some 2) else (some 0))) = some r := by rw [if_neg (show ¬ (false = true) by decide)] at H; exact H
        clear H
        have H := H1
        clear H1
        by_cases c10 : (a0_0.size : Int) > 60
        · rw [if_pos c10] at H
          have c10b0 : decide (60 < (a0_0.size : Int)) = true := decide_eq_true c10
          have c10b1 : decide (60 < a0_0.size) = true := decide_eq_true (by omega)
          clear c10
          obtain rfl := Option.some.inj H
          have hcz11_0 : wc.cell? ⟨gb158, 0, none⟩ = some (.string a0_0) := (blk_cell BK158.out 0).trans rfl
          have hcz11_1 : wc.cell? ⟨gb158, 1, none⟩ = some (.string a0_1) := (blk_cell BK158.out 1).trans rfl
          have hcz11_2 : wc.cell? ⟨gb158, 2, none⟩ = some (.bool a0_2) := (blk_cell BK158.out 2).trans rfl
          have hfz11_0 := blk_frozen BK158.out 0
          have hfz11_1 := blk_frozen BK158.out 1
          have hfz11_2 := blk_frozen BK158.out 2
          go_wp2
          go_ret
          exact ⟨by first | rfl | (simp [errW_none, errW_some] <;> rfl) | (simp [*, errW_none, errW_some] <;> rfl), by repeat (first | (with_reducible first | exact HB.out | apply below_alloc | apply pw_below_drewN | apply below_drew1 | refine below_set ?_ GE158.out) | exact HB.out)⟩
        · rw [if_neg c10] at H
          have c10b0 : decide (60 < (a0_0.size : Int)) = false := decide_eq_false c10
          have c10b1 : decide (60 < a0_0.size) = false := decide_eq_false (by omega)
          clear c10
          by_cases c12 : (a0_1.size : Int) > 3000
          · rw [if_pos c12] at H
            have c12b0 : decide (3000 < (a0_1.size : Int)) = true := decide_eq_true c12
            have c12b1 : decide (3000 < a0_1.size) = true := decide_eq_true (by omega)
            clear c12
            obtain rfl := Option.some.inj H
            have hcz13_0 : wc.cell? ⟨gb158, 0, none⟩ = some (.string a0_0) := (blk_cell BK158.out 0).trans rfl
            have hcz13_1 : wc.cell? ⟨gb158, 1, none⟩ = some (.string a0_1) := (blk_cell BK158.out 1).trans rfl
            have hcz13_2 : wc.cell? ⟨gb158, 2, none⟩ = some (.bool a0_2) := (blk_cell BK158.out 2).trans rfl
            have hfz13_0 := blk_frozen BK158.out 0
            have hfz13_1 := blk_frozen BK158.out 1
            have hfz13_2 := blk_frozen BK158.out 2
            go_wp2
            go_ret
            exact ⟨by first | rfl | (simp [errW_none, errW_some] <;> rfl) | (simp [*, errW_none, errW_some] <;> rfl), by repeat (first | (with_reducible first | exact HB.out | apply below_alloc | apply pw_below_drewN | apply below_drew1 | refine below_set ?_ GE158.out) | exact HB.out)⟩
          · rw [if_neg c12] at H
            have c12b0 : decide (3000 < (a0_1.size : Int)) = false := decide_eq_false c12
            have c12b1 : decide (3000 < a0_1.size) = false := decide_eq_false (by omega)
            clear c12
            obtain rfl := Option.some.inj H
            have hcz14_0 : wc.cell? ⟨gb158, 0, none⟩ = some (.string a0_0) := (blk_cell BK158.out 0).trans rfl
            have hcz14_1 : wc.cell? ⟨gb158, 1, none⟩ = some (.string a0_1) := (blk_cell BK158.out 1).trans rfl
            have hcz14_2 : wc.cell? ⟨gb158, 2, none⟩ = some (.bool a0_2) := (blk_cell BK158.out 2).trans rfl
            have hfz14_0 := blk_frozen BK158.out 0
            have hfz14_1 := blk_frozen BK158.out 1
            have hfz14_2 := blk_frozen BK158.out 2
            go_wp2
            go_ret
            exact ⟨by first | rfl | (simp [errW_none, errW_some] <;> rfl) | (simp [*, errW_none, errW_some] <;> rfl), by repeat (first | (with_reducible first | exact HB.out | apply below_alloc | apply pw_below_drewN | apply below_drew1 | refine below_set ?_ GE158.out) | exact HB.out)⟩

/-! ### glossatorref3_Checksum: function 42 -/
def glossatorref3_Checksum.l0 : Nat → ByteArray → Int → Int → Int → Option (Int)
  | 0, _, _, _, _ => none
  | k + 1, x0, x3, x6, x7 => if x7 < x6 then (if 0 ≤ x7 then (if x7 < (x0.size : Int) then (glossatorref3_Checksum.l0 k x0 (Int.tmod (IntKind.u64.wrap ((Go.bits .xor .u64 x3 (IntKind.u64.wrap (bt x0 x7))) * 16777619)) 4294967296) x6 (wrap64 (x7 + 1))) else (none)) else (none)) else (some ((x3) % 4294967296))
def glossatorref3_Checksum.f (k : Nat) (a0 : ByteArray) : Option (Int) := glossatorref3_Checksum.l0 k a0 2166136261 (a0.size : Int) 0
theorem glossatorref3_Checksum.mono_l : ∀ k, (∀ y0 y1 y2 y3, LeO (glossatorref3_Checksum.l0 k y0 y1 y2 y3) (glossatorref3_Checksum.l0 (k + 1) y0 y1 y2 y3))
  | 0 => fun _ _ _ _ r h => by simp [glossatorref3_Checksum.l0] at h
  | k + 1 => by
    have ih0 := glossatorref3_Checksum.mono_l k
    · intro y0 y1 y2 y3
      unfold glossatorref3_Checksum.l0
      repeat' first
      | (with_reducible exact ih0 _ _ _ _)
      | (with_reducible exact LeO.refl _)
      | (with_reducible exact LeO.none _)
      | (with_reducible refine LeO.ite ?_ ?_)
      | (with_reducible refine LeO.bind ?_ (fun _ => ?_))
      | exact ih0 _ _ _ _
      | exact LeO.none _
      | refine LeO.ite ?_ ?_
      | refine LeO.bind ?_ (fun _ => ?_)
theorem glossatorref3_Checksum.mono : ∀ a0 k, LeO (glossatorref3_Checksum.f k a0) (glossatorref3_Checksum.f (k + 1) a0) := by
  intro a0 k
  have ih0 := glossatorref3_Checksum.mono_l k
  unfold glossatorref3_Checksum.f
  repeat' first
      | (with_reducible exact ih0 _ _ _ _)
      | (with_reducible exact LeO.refl _)
      | (with_reducible exact LeO.none _)
      | (with_reducible refine LeO.ite ?_ ?_)
      | (with_reducible refine LeO.bind ?_ (fun _ => ?_))
      | exact ih0 _ _ _ _
      | exact LeO.none _
      | refine LeO.ite ?_ ?_
      | refine LeO.bind ?_ (fun _ => ?_)
set_option maxHeartbeats 8000000 in
set_option maxRecDepth 100000 in
theorem glossatorref3_Checksum.calls (k : Nat) (a0 : ByteArray) (r : Int) (w : World) (h : glossatorref3_Checksum.f k a0 = some r) :
    Calls Try.prog 42 #[.string a0] w fun e w' => e = .returned (.int .u32 r) ∧ Drawn0 w w' := by
  have H : (glossatorref3_Checksum.l0 k a0 2166136261 (a0.size : Int) 0) = some r := h
  clear h
  have H' := Aside0.mk H
  clear H
  go_enter Try.func42, Try.ntmps42
  go_wp2
  go_loopg [3, 7] k (fun kq v3 v7 w' => ∃ (x3_1 : Int) (x7_1 : Int), v3 = .int .u64 x3_1 ∧ v7 = .int .i64 x7_1 ∧ Aside0 (glossatorref3_Checksum.l0 kq a0 x3_1 (a0.size : Int) x7_1 = some r) ∧ Aside0 (kq ≤ k) ∧ Drawn0 w w')
  case atStart => exact ⟨(2166136261), (0), (by first | rfl | (simp; done) | (simp [*]; done) | (simp [isEmpty_bne]; done)), (by first | rfl | (simp; done) | (simp [*]; done) | (simp [isEmpty_bne]; done)), H', ⟨Nat.le_refl _⟩, by repeat (first | exact Drawn0.refl _ | apply Drawn0.step)⟩
  case round =>
    clear H'
    obtain ⟨x3_1, x7_1, rfl, rfl, HA, HK1, ⟨m1, rfl⟩⟩ := hrel
    cases gk with
    | zero => exact absurd HA.out (by simp [glossatorref3_Checksum.l0])
    | succ k1 =>
      have H := HA.out
      clear HA
      simp only [glossatorref3_Checksum.l0] at H
      by_cases c2 : x7_1 < (a0.size : Int)
      · rw [if_pos c2] at H
        have c2b0 : decide (x7_1 < (a0.size : Int)) = true := decide_eq_true c2
        clear c2
        by_cases c3 : 0 ≤ x7_1
        · rw [if_pos c3] at H
          have c3b0 : decide (0 ≤ x7_1) = true := decide_eq_true c3
          clear c3
          by_cases c4 : x7_1 < (a0.size : Int)
          · rw [if_pos c4] at H
            have c4b0 : decide (x7_1 < (a0.size : Int)) = true := decide_eq_true c4
            clear c4
            have H' := Aside0.mk H
            clear H
            have p5 : 0 ≤ (x7_1 : Int) := of_decide_eq_true (by first | (with_reducible assumption) | assumption)
            have q5 : x7_1 < (a0.size : Int) := of_decide_eq_true (by first | (with_reducible assumption) | assumption)
            have hx5 := bt_at a0 x7_1
            replace p5 := eq_true p5
            replace q5 := eq_true q5
            go_wp2
            go_roundg k1
            case measure => have := HK1.out; omega
            case rel => exact ⟨(Int.tmod (IntKind.u64.wrap ((Go.bits .xor .u64 x3_1 (IntKind.u64.wrap (bt a0 x7_1))) * 16777619)) 4294967296), (wrap64 (x7_1 + 1)), (by first | rfl | (simp; done) | (simp [*]; done) | (simp [isEmpty_bne]; done)), (by first | rfl | (simp; done) | (simp [*]; done) | (simp [isEmpty_bne]; done)), H', ⟨by have := HK1.out; omega⟩, by repeat (first | exact Drawn0.refl _ | apply Drawn0.step)⟩
          · rw [if_neg c4] at H
            exact absurd H (by simp)
        · rw [if_neg c3] at H
          exact absurd H (by simp)
      · rw [if_neg c2] at H
        have c2b0 : decide (x7_1 < (a0.size : Int)) = false := decide_eq_false c2
        clear c2
        obtain rfl := Option.some.inj H
        go_wp2
        go_ret
        exact ⟨by first | rfl | (simp; done) | (simp [*]; done), by repeat (first | exact Drawn0.refl _ | apply Drawn0.step)⟩

/-! ### glossatorref3_number32: function 91 -/
def glossatorref3_number32.f (a0 : Int) : Option (ByteArray) := some (strOfNums (([(a0 / 16777216) % 256, (a0 / 65536) % 256, (a0 / 256) % 256, (a0) % 256] : List Int)))
set_option maxHeartbeats 8000000 in
set_option maxRecDepth 100000 in
theorem glossatorref3_number32.calls (a0 : Int) (r : ByteArray) (w : World) (h : glossatorref3_number32.f a0 = some r) :
    Calls Try.prog 91 #[.int .u32 a0] w fun e w' => e = .returned (.string r) ∧ Below w.heap.size w w' := by
  have HB := Aside0.mk (Below.refl w.heap.size w)
  have H : (some (strOfNums (([(a0 / 16777216) % 256, (a0 / 65536) % 256, (a0 / 256) % 256, (a0) % 256] : List Int)))) = some r := h
  clear h
  obtain ⟨y159, hy159⟩ : ∃ y_ : List Int, y_ = (([(a0 / 16777216) % 256, (a0 / 65536) % 256, (a0 / 256) % 256, (a0) % 256] : List Int)) := ⟨_, rfl⟩
  replace H : (some (strOfNums y159)) = some r := by first | (rw [hy159]; with_reducible exact H) | (have H2_ := (Option.bind_some _ _).symm.trans H; rw [hy159]; with_reducible exact H2_) | (have H2_ := (Option.bind_some _ _).symm.trans H; with_reducible exact H2_) | with_reducible exact H | (rw [hy159]; exact H) | exact H
  have Ny159 := Aside0.mk hy159
  clear hy159
  obtain rfl := Option.some.inj H
  go_enter Try.func91, Try.ntmps91
  go_wp2_with (first | ((with_reducible refine gate_dst (N := 14) rfl ?_); refine Kd.R_lit (Kd.int .u8) _ 5 ?hg (N := 14) ?hd (xs := ([(a0 / 16777216) % 256, (a0 / 65536) % 256, (a0 / 256) % 256, (a0) % 256] : List Int)) (inner := [.int .u8 ((a0 / 16777216) % 256), .int .u8 ((a0 / 65536) % 256), .int .u8 ((a0 / 256) % 256), .int .u8 ((a0) % 256)]) (ok := fun _ => True) (okp := fun _ => True) ?hr ?hp (fun _ hk => hk) trivial (Below.refl _ _) (Nat.le_refl _) (by simp) ?_; (case hd => rfl); (case hg => rfl); (case hr => first | (go_simp; done) | (go_simp; rfl)); (case hp => exact (Reps.one (show Kd.M (Kd.int .u8) _ _ _ ((a0 / 16777216) % 256) [.int .u8 ((a0 / 16777216) % 256)] from rfl) (Reps.one (show Kd.M (Kd.int .u8) _ _ _ ((a0 / 65536) % 256) [.int .u8 ((a0 / 65536) % 256)] from rfl) (Reps.one (show Kd.M (Kd.int .u8) _ _ _ ((a0 / 256) % 256) [.int .u8 ((a0 / 256) % 256)] from rfl) (Reps.one (show Kd.M (Kd.int .u8) _ _ _ ((a0) % 256) [.int .u8 ((a0) % 256)] from rfl) (Reps.none _ _)))))); intro v160 w2 ho3 hb hg_ hnew_; clear hg_ hnew_; (first | rw [← Ny159.out] at ho3 | (simp only [Int.reduceToNat] at ho3; rw [← Ny159.out] at ho3)); have n0_ := Aside0.mk (Kd.R_lower ho3 (below_size (by repeat (first | (with_reducible first | exact HB.out | apply below_alloc | apply pw_below_drewN | apply below_drew1) | exact HB.out)))); have n1_ := Aside0.mk (below_step (by repeat (first | (with_reducible first | exact HB.out | apply below_alloc | apply pw_below_drewN | apply below_drew1) | exact HB.out)) hb); clear HB; have HO161 := n0_; have HB := n1_; clear n0_ n1_; clear hb ho3; have hcv4 := own_string (P := Try.prog) Try.underlying143 Try.underlying5 Try.underlying9 (Kd.own_of_R HO161.out)))
  go_ret
  exact ⟨by first | rfl | (simp [errW_none, errW_some] <;> rfl) | (simp [*, errW_none, errW_some] <;> rfl), by repeat (first | (with_reducible first | exact HB.out | apply below_alloc | apply pw_below_drewN | apply below_drew1) | exact HB.out)⟩

end Go.Proofs.Ytbfedkmiekbcmaa.QJournalAppend
