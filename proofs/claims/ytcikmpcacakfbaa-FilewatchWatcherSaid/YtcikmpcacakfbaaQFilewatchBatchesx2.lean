-- Written by gen.py (this repo's wip/), which runs the kit's print.py with more arms. Lean checks it.
import Derived.Test.YtcikmpcacakfbaaQFilewatchBatchesx0
namespace Go.Proofs.Ytcikmpcacakfbaa.QFilewatchBatches
open Go.RowKit Go.Proofs.YtcikmpcacakfbaaW.PrintWords Go.Proofs.YtcikmpcacakfbaaW.PrintLast Go.Proofs.YtcikmpcacakfbaaW.PrintMore
attribute [local go_sem] max2_int min2_int max_two min_two max_three min_three max_four min_four   -- for this text's walks alone
set_option linter.unusedVariables false
set_option linter.unusedSimpArgs false

private theorem isEmpty_bne {α : Type} [BEq α] (l : List α) : (l != []) = !l.isEmpty := by cases l <;> rfl

-- NOT PRINTED: function 80 (api_QFileEvent_80)

-- NOT PRINTED: function 61 (api_QFileEvent_61)

/-! ### filewatch_validKind: function 49 -/
def filewatch_validKind.f (a0 : Int) : Option (Bool) := if a0 ≥ 1 then (some (decide (a0 ≤ 3))) else (some false)
set_option maxHeartbeats 8000000 in
set_option maxRecDepth 100000 in
theorem filewatch_validKind.calls (a0 : Int) (r : Bool) (w : World) (h : filewatch_validKind.f a0 = some r) :
    Calls Try.prog 49 #[.int .i64 a0] w fun e w' => e = .returned (.bool r) ∧ Drawn0 w w' := by
  have H : (if a0 ≥ 1 then (some (decide (a0 ≤ 3))) else (some false)) = some r := h
  clear h
  by_cases c2 : a0 ≥ 1
  · rw [if_pos c2] at H
    have c2b0 : decide (1 ≤ a0) = true := decide_eq_true c2
    clear c2
    obtain rfl := Option.some.inj H
    go_enter Try.func49, Try.ntmps49
    go_wp2
    go_ret
    exact ⟨by first | rfl | (simp; done) | (simp [*]; done), by repeat (first | exact Drawn0.refl _ | apply Drawn0.step)⟩
  · rw [if_neg c2] at H
    have c2b0 : decide (1 ≤ a0) = false := decide_eq_false c2
    clear c2
    obtain rfl := Option.some.inj H
    go_enter Try.func49, Try.ntmps49
    go_wp2
    go_ret
    exact ⟨by first | rfl | (simp; done) | (simp [*]; done), by repeat (first | exact Drawn0.refl _ | apply Drawn0.step)⟩

/-! ### filewatch_validate_1: function 62 -/
def filewatch_validate_1.f (a0_0 : Int) (a0_1 : ByteArray) (a0_2 : Int) : Option (Bool) := (filewatch_validKind.f a0_2).bind fun t102 => (some (!t102))
set_option maxHeartbeats 8000000 in
set_option maxRecDepth 100000 in
theorem filewatch_validate_1.calls (a0_0 : Int) (a0_1 : ByteArray) (a0_2 : Int) (r : Bool) (w : World) (h : filewatch_validate_1.f a0_0 a0_1 a0_2 = some r) :
    Calls Try.prog 62 #[.agg #[.int .i64 a0_0, .string a0_1, .int .i64 a0_2]] w fun e w' => e = .returned (.bool r) ∧ Below w.heap.size w w' := by
  have hu58 := Try.underlying58
  have HB := Aside0.mk (Below.refl w.heap.size w)
  have H : ((filewatch_validKind.f a0_2).bind fun t102 => (some (!t102))) = some r := h
  clear h
  replace H := Option.bind_eq_some_iff.mp H
  obtain ⟨t102, A20, H⟩ := H
  replace H : (some (!t102)) = some r := H
  have A2 := Aside0.mk A20
  clear A20
  obtain rfl := Option.some.inj H
  go_enter Try.func62, Try.ntmps62
  go_wp2_with (first | ((with_reducible refine gate_dst (N := 1) rfl ?_); refine box_event ?hg (N := 1) ?hd (cs := #[.int .i64 a0_0, .string a0_1, .int .i64 a0_2]) (t := 58) ?hr ?_; (case hd => rfl); (case hg => rfl); (case hr => first | (go_simp; done) | (go_simp; rfl)); intro gb101 hg w3 hbox hb; have n0_ := Aside0.mk (below_step (by repeat (first | (with_reducible first | exact HB.out | apply below_alloc | apply pw_below_drewN | apply below_drew1) | exact HB.out)) hb); have n1_ := Aside0.mk (hbox); have n2_ := Aside0.mk ((by rw [hg]; exact (below_size (by repeat (first | (with_reducible first | exact HB.out | apply below_alloc | apply pw_below_drewN | apply below_drew1) | exact HB.out))) : w.heap.size ≤ gb101)); have n3_ := Aside0.mk ((by rw [hg]; exact (below_size (by repeat (first | (with_reducible first | exact HB.out | apply below_alloc | apply pw_below_drewN | apply below_drew1) | exact HB.out))) : w.heap.size ≤ gb101)); clear HB; have HB := n0_; have BK101 := n1_; have GW101 := n2_; have GE101 := n3_; clear n0_ n1_ n2_ n3_; clear hb hbox hg; have hcz4_0 : w3.cell? ⟨gb101, 0, none⟩ = some (.int .i64 a0_0) := (blk_cell BK101.out 0).trans rfl; have hcz4_1 : w3.cell? ⟨gb101, 1, none⟩ = some (.string a0_1) := (blk_cell BK101.out 1).trans rfl; have hcz4_2 : w3.cell? ⟨gb101, 2, none⟩ = some (.int .i64 a0_2) := (blk_cell BK101.out 2).trans rfl; have hfz4_0 := blk_frozen BK101.out 0; have hfz4_1 := blk_frozen BK101.out 1; have hfz4_2 := blk_frozen BK101.out 2) | ((with_reducible refine gate_callee (f := 49) rfl ?_); refine goesL_ (some 5) rfl rfl Try.func49 (by kernel_rfl) rfl #[.int .i64 a0_2] rfl (by (try simp only [List.map_toArray, List.map_cons, List.map_nil]); first | done | rfl | (simp only [List.length_drop, List.length_take]; rfl)) ?_; (with_reducible refine (filewatch_validKind.calls a0_2 t102 _ A2.out).mono ?_); rintro e w' ⟨rfl, ⟨nd, rfl⟩⟩; refine ⟨_, rfl, ?_⟩))
  go_ret
  exact ⟨by first | rfl | (simp [errW_none, errW_some] <;> rfl) | (simp [*, errW_none, errW_some] <;> rfl), by repeat (first | (with_reducible first | exact HB.out | apply below_alloc | apply pw_below_drewN | apply below_drew1 | refine below_set ?_ GE101.out) | exact HB.out)⟩

/-! ### slices_IndexFunc_80_at_62: function 121 -/
def slices_IndexFunc_80_at_62.l0 : Nat → List (S58) → Int → Int → Option (Int)
  | 0, _, _, _ => none
  | k + 1, x0, x7, x8 => if x8 < x7 then (if 0 ≤ x8 then (if x8 < (x0.length : Int) then ((filewatch_validate_1.f ((rd_T58 x0 x8).f0) ((rd_T58 x0 x8).f1) ((rd_T58 x0 x8).f2)).bind fun t104 => (if t104 = true then (some x8) else (slices_IndexFunc_80_at_62.l0 k x0 x7 (wrap64 (x8 + 1))))) else (none)) else (none)) else (some (-1))
def slices_IndexFunc_80_at_62.f (k : Nat) (l0 : List (S58))  : Option (Int) := slices_IndexFunc_80_at_62.l0 k l0 (l0.length : Int) 0
theorem slices_IndexFunc_80_at_62.mono_l : ∀ k, (∀ y0 y1 y2, LeO (slices_IndexFunc_80_at_62.l0 k y0 y1 y2) (slices_IndexFunc_80_at_62.l0 (k + 1) y0 y1 y2))
  | 0 => fun _ _ _ r h => by simp [slices_IndexFunc_80_at_62.l0] at h
  | k + 1 => by
    have ih0 := slices_IndexFunc_80_at_62.mono_l k
    · intro y0 y1 y2
      unfold slices_IndexFunc_80_at_62.l0
      repeat' first
      | (with_reducible exact ih0 _ _ _)
      | (with_reducible exact LeO.refl _)
      | (with_reducible exact LeO.none _)
      | (with_reducible refine LeO.ite ?_ ?_)
      | (with_reducible refine LeO.bind ?_ (fun _ => ?_))
      | exact ih0 _ _ _
      | exact LeO.none _
      | refine LeO.ite ?_ ?_
      | refine LeO.bind ?_ (fun _ => ?_)
theorem slices_IndexFunc_80_at_62.mono : ∀ a0 k, LeO (slices_IndexFunc_80_at_62.f k a0) (slices_IndexFunc_80_at_62.f (k + 1) a0) := by
  intro a0 k
  have ih0 := slices_IndexFunc_80_at_62.mono_l k
  unfold slices_IndexFunc_80_at_62.f
  repeat' first
      | (with_reducible exact ih0 _ _ _)
      | (with_reducible exact LeO.refl _)
      | (with_reducible exact LeO.none _)
      | (with_reducible refine LeO.ite ?_ ?_)
      | (with_reducible refine LeO.bind ?_ (fun _ => ?_))
      | exact ih0 _ _ _
      | exact LeO.none _
      | refine LeO.ite ?_ ?_
      | refine LeO.bind ?_ (fun _ => ?_)
set_option maxHeartbeats 8000000 in
set_option maxRecDepth 100000 in
theorem slices_IndexFunc_80_at_62.calls (k : Nat) (A0 : Option Addr) (c0 : Nat) (l0 : List (S58))  (r : Int) (w : World) (hr0 : Kd.C k58 w A0 l0.length l0) (hc0 : l0.length ≤ c0) (h : slices_IndexFunc_80_at_62.f k l0 = some r) :
    Calls Try.prog 80 #[.slice A0 l0.length c0, .func (.func 62) #[] #[]] w fun e w' => e = .returned (.int .i64 r) ∧ Below w.heap.size w w' := by
  have hu58 := Try.underlying58
  have HR0 := Aside0.mk hr0
  have HC0 := Aside0.mk hc0
  clear hr0 hc0
  have HB := Aside0.mk (Below.refl w.heap.size w)
  have H : (slices_IndexFunc_80_at_62.l0 k l0 (l0.length : Int) 0) = some r := h
  clear h
  have H' := Aside0.mk H
  clear H
  go_enter Try.func80, Try.ntmps80
  go_wp2
  go_loopg [8] k (fun kq v8 w' => ∃ (x8_1 : Int), v8 = .int .i64 x8_1 ∧ Aside0 (slices_IndexFunc_80_at_62.l0 kq l0 (l0.length : Int) x8_1 = some r) ∧ Aside0 (kq ≤ k) ∧ Aside0 (Below w.heap.size w w'))
  case atStart => exact ⟨(0), (by first | rfl | (simp; done) | (simp [*]; done) | (simp [isEmpty_bne]; done)), H', ⟨Nat.le_refl _⟩, ⟨by repeat (first | (with_reducible first | exact HB.out | apply below_alloc | apply pw_below_drewN | apply below_drew1) | exact HB.out)⟩⟩
  case round =>
    clear H'
    try clear c1
    try clear p2
    obtain ⟨x8_1, rfl, HA, HK1, HB⟩ := hrel
    cases gk with
    | zero => exact absurd HA.out (by simp [slices_IndexFunc_80_at_62.l0])
    | succ k1 =>
      have H := HA.out
      clear HA
      simp only [slices_IndexFunc_80_at_62.l0] at H
      by_cases c3 : x8_1 < (l0.length : Int)
      · rw [if_pos c3] at H
        have c3b0 : decide (x8_1 < (l0.length : Int)) = true := decide_eq_true c3
        clear c3
        by_cases c4 : 0 ≤ x8_1
        · rw [if_pos c4] at H
          have c4b0 : decide (0 ≤ x8_1) = true := decide_eq_true c4
          clear c4
          by_cases c5 : x8_1 < (l0.length : Int)
          · rw [if_pos c5] at H
            have c5b0 : decide (x8_1 < (l0.length : Int)) = true := decide_eq_true c5
            clear c5
            replace H := Option.bind_eq_some_iff.mp H
            obtain ⟨t104, A60, H⟩ := H
            replace H : (if t104 = true then (some x8_1) else (slices_IndexFunc_80_at_62.l0 k1 l0 (l0.length : Int) (wrap64 (x8_1 + 1)))) = some r := H
            have A6 := Aside0.mk A60
            clear A60
            by_cases c7 : t104 = true
            · subst c7
              have H1 : (some x8_1) = some r := by rw [if_pos rfl] at H; exact H
              clear H
              have H := H1
              clear H1
              obtain rfl := Option.some.inj H
              have p103 : 0 ≤ (x8_1 : Int) := of_decide_eq_true (by first | (with_reducible assumption) | assumption)
              have q103 : x8_1 < (l0.length : Int) := of_decide_eq_true (by first | (with_reducible assumption) | assumption)
              obtain ⟨ad103, e103, hx103_0, hx103_1, hx103_2⟩ := at_T58 HR0.out x8_1 p103 q103
              cases e103
              replace hx103_0 := (HB.out.cell (World.block_lt_of_cell? w _ hx103_0)).trans hx103_0
              replace hx103_1 := (HB.out.cell (World.block_lt_of_cell? w _ hx103_1)).trans hx103_1
              replace hx103_2 := (HB.out.cell (World.block_lt_of_cell? w _ hx103_2)).trans hx103_2
              replace p103 := eq_true p103
              replace q103 := eq_true q103
              go_wp2_with (first | (go_at_call 62; (with_reducible refine (filewatch_validate_1.calls ((rd_T58 l0 x8_1).f0) ((rd_T58 l0 x8_1).f1) ((rd_T58 l0 x8_1).f2) true _ A6.out).mono ?_); rintro e w8 ⟨rfl, hb⟩; have n0_ := Aside0.mk (below_step (by repeat (first | (with_reducible first | exact HB.out | apply below_alloc | apply pw_below_drewN | apply below_drew1) | exact HB.out)) hb); clear HB; have HB := n0_; clear n0_; (try clear hb); (try clear hb2); (try clear hk); (try clear hi)))
              go_ret
              exact ⟨by first | rfl | (simp [errW_none, errW_some] <;> rfl) | (simp [*, errW_none, errW_some] <;> rfl), by repeat (first | (with_reducible first | exact HB.out | apply below_alloc | apply pw_below_drewN | apply below_drew1) | exact HB.out)⟩
            · replace c7 := Bool.eq_false_iff.mpr c7
              subst c7
              have H1 : (slices_IndexFunc_80_at_62.l0 k1 l0 (l0.length : Int) (wrap64 (x8_1 + 1))) = some r := by rw [if_neg (show ¬ (false = true) by decide)] at H; exact H
              clear H
              have H := H1
              clear H1
              have H' := Aside0.mk H
              clear H
              have p103 : 0 ≤ (x8_1 : Int) := of_decide_eq_true (by first | (with_reducible assumption) | assumption)
              have q103 : x8_1 < (l0.length : Int) := of_decide_eq_true (by first | (with_reducible assumption) | assumption)
              obtain ⟨ad103, e103, hx103_0, hx103_1, hx103_2⟩ := at_T58 HR0.out x8_1 p103 q103
              cases e103
              replace hx103_0 := (HB.out.cell (World.block_lt_of_cell? w _ hx103_0)).trans hx103_0
              replace hx103_1 := (HB.out.cell (World.block_lt_of_cell? w _ hx103_1)).trans hx103_1
              replace hx103_2 := (HB.out.cell (World.block_lt_of_cell? w _ hx103_2)).trans hx103_2
              replace p103 := eq_true p103
              replace q103 := eq_true q103
              go_wp2_with (first | (go_at_call 62; (with_reducible refine (filewatch_validate_1.calls ((rd_T58 l0 x8_1).f0) ((rd_T58 l0 x8_1).f1) ((rd_T58 l0 x8_1).f2) false _ A6.out).mono ?_); rintro e w9 ⟨rfl, hb⟩; have n0_ := Aside0.mk (below_step (by repeat (first | (with_reducible first | exact HB.out | apply below_alloc | apply pw_below_drewN | apply below_drew1) | exact HB.out)) hb); clear HB; have HB := n0_; clear n0_; (try clear hb); (try clear hb2); (try clear hk); (try clear hi)))
              go_roundg k1
              case measure => have := HK1.out; omega
              case rel => exact ⟨(wrap64 (x8_1 + 1)), (by first | rfl | (simp; done) | (simp [*]; done) | (simp [isEmpty_bne]; done)), H', ⟨by have := HK1.out; omega⟩, ⟨by repeat (first | (with_reducible first | exact HB.out | apply below_alloc | apply pw_below_drewN | apply below_drew1) | exact HB.out)⟩⟩
          · rw [if_neg c5] at H
            exact absurd H (by simp)
        · rw [if_neg c4] at H
          exact absurd H (by simp)
      · rw [if_neg c3] at H
        have c3b0 : decide (x8_1 < (l0.length : Int)) = false := decide_eq_false c3
        clear c3
        obtain rfl := Option.some.inj H
        go_wp2
        go_ret
        exact ⟨by first | rfl | (simp [errW_none, errW_some] <;> rfl) | (simp [*, errW_none, errW_some] <;> rfl), by repeat (first | (with_reducible first | exact HB.out | apply below_alloc | apply pw_below_drewN | apply below_drew1) | exact HB.out)⟩

/-! ### slices_ContainsFunc_61_at_62: function 120 -/
def slices_ContainsFunc_61_at_62.f (k : Nat) (l0 : List (S58))  : Option (Bool) := (slices_IndexFunc_80_at_62.f k l0).bind fun t105 => (some (decide (t105 ≥ 0)))
theorem slices_ContainsFunc_61_at_62.mono : ∀ a0 k, LeO (slices_ContainsFunc_61_at_62.f k a0) (slices_ContainsFunc_61_at_62.f (k + 1) a0) := by
  intro a0 k
  unfold slices_ContainsFunc_61_at_62.f
  repeat' first
      | (with_reducible exact slices_IndexFunc_80_at_62.mono _ _)
      | (with_reducible exact LeO.refl _)
      | (with_reducible exact LeO.none _)
      | (with_reducible refine LeO.ite ?_ ?_)
      | (with_reducible refine LeO.bind ?_ (fun _ => ?_))
      | exact slices_IndexFunc_80_at_62.mono _ _
      | exact LeO.none _
      | refine LeO.ite ?_ ?_
      | refine LeO.bind ?_ (fun _ => ?_)
set_option maxHeartbeats 8000000 in
set_option maxRecDepth 100000 in
theorem slices_ContainsFunc_61_at_62.calls (k : Nat) (A0 : Option Addr) (c0 : Nat) (l0 : List (S58))  (r : Bool) (w : World) (hr0 : Kd.C k58 w A0 l0.length l0) (hc0 : l0.length ≤ c0) (h : slices_ContainsFunc_61_at_62.f k l0 = some r) :
    Calls Try.prog 61 #[.slice A0 l0.length c0, .func (.func 62) #[] #[]] w fun e w' => e = .returned (.bool r) ∧ Below w.heap.size w w' := by
  have HR0 := Aside0.mk hr0
  have HC0 := Aside0.mk hc0
  clear hr0 hc0
  have HB := Aside0.mk (Below.refl w.heap.size w)
  have H : ((slices_IndexFunc_80_at_62.f k l0).bind fun t105 => (some (decide (t105 ≥ 0)))) = some r := h
  clear h
  replace H := Option.bind_eq_some_iff.mp H
  obtain ⟨t105, A30, H⟩ := H
  replace H : (some (decide (t105 ≥ 0))) = some r := H
  have A3 := Aside0.mk A30
  clear A30
  obtain rfl := Option.some.inj H
  go_enter Try.func61, Try.ntmps61
  go_wp2_with (first | (go_at_call 80; (with_reducible refine (slices_IndexFunc_80_at_62.calls k _ _ l0  t105 _ ?side1 ?side2 A3.out).mono ?_); (case side1 => repeat (first | exact HR0.out | (with_reducible refine Kd.C_alloc ?_ _) | (with_reducible refine Kd.C_drewN ?_ _) | (with_reducible refine Kd.C_drew ?_))); (case side2 => exact HC0.out); rintro e w4 ⟨rfl, hb⟩; have n0_ := Aside0.mk (below_step (by repeat (first | (with_reducible first | exact HB.out | apply below_alloc | apply pw_below_drewN | apply below_drew1) | exact HB.out)) hb); clear HB; have HB := n0_; clear n0_; (try clear hb); (try clear hb2); (try clear hk); (try clear hi)))
  go_ret
  exact ⟨by first | rfl | (simp [errW_none, errW_some] <;> rfl) | (simp [*, errW_none, errW_some] <;> rfl), by repeat (first | (with_reducible first | exact HB.out | apply below_alloc | apply pw_below_drewN | apply below_drew1) | exact HB.out)⟩

/-! ### filewatch_validate: function 46 -/
mutual
def filewatch_validate.j0 : Nat → List (S58) → Bool → Option (Int)
  | 0, _, _ => none
  | k + 1, x0, x7 => if x7 = true then (some 1) else (if (x0.length : Int) > 1000 then (some 2) else ((slices_ContainsFunc_61_at_62.f k x0).bind fun t106 => (if t106 = true then (some 7) else (filewatch_validate.l0 k x0 x0 (x0.length : Int) 0))))
def filewatch_validate.l0 : Nat → List (S58) → List (S58) → Int → Int → Option (Int)
  | 0, _, _, _, _ => none
  | k + 1, x0, x21, x22, x23 => if x23 < x22 then (if 0 ≤ x23 then (if x23 < (x21.length : Int) then (if ((rd_T58 x21 x23).f0) < 0 then (some 3) else (if ((rd_T58 x21 x23).f0) > 1000000000000 then (some 3) else (if x23 > 0 then (if 0 ≤ (wrap64 (x23 - 1)) then (if (wrap64 (x23 - 1)) < (x0.length : Int) then (if ((rd_T58 x21 x23).f0) < ((rd_T58 x0 (wrap64 (x23 - 1))).f0) then (some 3) else (filewatch_validate.l0 k x0 x21 x22 (wrap64 (x23 + 1)))) else (none)) else (none)) else (filewatch_validate.l0 k x0 x21 x22 (wrap64 (x23 + 1)))))) else (none)) else (none)) else (some 0)
end
def filewatch_validate.f (k : Nat) (l0 : List (S58)) (a1 : Int) : Option (Int) := if a1 < 0 then (filewatch_validate.j0 k l0 true) else (filewatch_validate.j0 k l0 (decide (a1 > 1000000)))
theorem filewatch_validate.mono_l : ∀ k, (∀ y0 y1, LeO (filewatch_validate.j0 k y0 y1) (filewatch_validate.j0 (k + 1) y0 y1)) ∧ (∀ y0 y1 y2 y3, LeO (filewatch_validate.l0 k y0 y1 y2 y3) (filewatch_validate.l0 (k + 1) y0 y1 y2 y3))
  | 0 => ⟨fun _ _ r h => by simp [filewatch_validate.j0] at h, fun _ _ _ _ r h => by simp [filewatch_validate.l0] at h⟩
  | k + 1 => by
    obtain ⟨ih0, ih1⟩ := filewatch_validate.mono_l k
    refine ⟨?_, ?_⟩
    · intro y0 y1
      unfold filewatch_validate.j0
      repeat' first
      | (with_reducible exact ih0 _ _)
      | (with_reducible exact ih1 _ _ _ _)
      | (with_reducible exact slices_ContainsFunc_61_at_62.mono _ _)
      | (with_reducible exact LeO.refl _)
      | (with_reducible exact LeO.none _)
      | (with_reducible refine LeO.ite ?_ ?_)
      | (with_reducible refine LeO.bind ?_ (fun _ => ?_))
      | exact ih0 _ _
      | exact ih1 _ _ _ _
      | exact slices_ContainsFunc_61_at_62.mono _ _
      | exact LeO.none _
      | refine LeO.ite ?_ ?_
      | refine LeO.bind ?_ (fun _ => ?_)
    · intro y0 y1 y2 y3
      unfold filewatch_validate.l0
      repeat' first
      | (with_reducible exact ih0 _ _)
      | (with_reducible exact ih1 _ _ _ _)
      | (with_reducible exact slices_ContainsFunc_61_at_62.mono _ _)
      | (with_reducible exact LeO.refl _)
      | (with_reducible exact LeO.none _)
      | (with_reducible refine LeO.ite ?_ ?_)
      | (with_reducible refine LeO.bind ?_ (fun _ => ?_))
      | exact ih0 _ _
      | exact ih1 _ _ _ _
      | exact slices_ContainsFunc_61_at_62.mono _ _
      | exact LeO.none _
      | refine LeO.ite ?_ ?_
      | refine LeO.bind ?_ (fun _ => ?_)
theorem filewatch_validate.mono : ∀ a0 a1 k, LeO (filewatch_validate.f k a0 a1) (filewatch_validate.f (k + 1) a0 a1) := by
  intro a0 a1 k
  obtain ⟨ih0, ih1⟩ := filewatch_validate.mono_l k
  unfold filewatch_validate.f
  repeat' first
      | (with_reducible exact ih0 _ _)
      | (with_reducible exact ih1 _ _ _ _)
      | (with_reducible exact slices_ContainsFunc_61_at_62.mono _ _)
      | (with_reducible exact LeO.refl _)
      | (with_reducible exact LeO.none _)
      | (with_reducible refine LeO.ite ?_ ?_)
      | (with_reducible refine LeO.bind ?_ (fun _ => ?_))
      | exact ih0 _ _
      | exact ih1 _ _ _ _
      | exact slices_ContainsFunc_61_at_62.mono _ _
      | exact LeO.none _
      | refine LeO.ite ?_ ?_
      | refine LeO.bind ?_ (fun _ => ?_)
set_option maxHeartbeats 8000000 in
set_option maxRecDepth 100000 in
theorem filewatch_validate.calls (k : Nat) (A0 : Option Addr) (c0 : Nat) (l0 : List (S58)) (a1 : Int) (r : Int) (w : World) (hr0 : Kd.C k58 w A0 l0.length l0) (hc0 : l0.length ≤ c0) (h : filewatch_validate.f k l0 a1 = some r) :
    Calls Try.prog 46 #[.slice A0 l0.length c0, .int .i64 a1] w fun e w' => e = .returned (.int .i64 r) ∧ Below w.heap.size w w' := by
  have hu58 := Try.underlying58
  have HR0 := Aside0.mk hr0
  have HC0 := Aside0.mk hc0
  clear hr0 hc0
  have HB := Aside0.mk (Below.refl w.heap.size w)
  have H : (if a1 < 0 then (filewatch_validate.j0 k l0 true) else (filewatch_validate.j0 k l0 (decide (a1 > 1000000)))) = some r := h
  clear h
  have HC3 := Aside0.mk H
  clear H
  go_enter Try.func46, Try.ntmps46
  go_upto_region 1 with (fail)
  repeat (go_quiet (fail); go_upto_region 1 with (fail))
  go_cut [7] (fun v7 wc => ∃ (kq : Nat) (x7_2 : Bool), v7 = .bool x7_2 ∧ Aside0 (filewatch_validate.j0 kq l0 x7_2 = some r) ∧ Aside0 (kq ≤ k) ∧ Aside0 (Below w.heap.size w wc))
  case first =>
    have H := HC3.out
    clear HC3
    by_cases c4 : a1 < 0
    · rw [if_pos c4] at H
      have c4b0 : decide (a1 < 0) = true := decide_eq_true c4
      clear c4
      (first | rw [c4b0] | (simp only [i64_w, i32_w]; rw [c4b0]) | skip)
      have H' := Aside0.mk H
      clear H
      go_wp2
      repeat (go_quiet (fail); try go_wp2)
      go_meet
      case rel => exact ⟨_, (true), (by first | rfl | (simp; done) | (simp [*]; done) | (simp [isEmpty_bne]; done)), H', ⟨by first | omega | exact Nat.le_refl _⟩, ⟨by repeat (first | (with_reducible first | exact HB.out | apply below_alloc | apply pw_below_drewN | apply below_drew1) | exact HB.out)⟩⟩
    · rw [if_neg c4] at H
      have c4b0 : decide (a1 < 0) = false := decide_eq_false c4
      clear c4
      (first | rw [c4b0] | (simp only [i64_w, i32_w]; rw [c4b0]) | skip)
      have H' := Aside0.mk H
      clear H
      go_wp2
      repeat (go_quiet (fail); try go_wp2)
      go_meet
      case rel => exact ⟨_, (decide (a1 > 1000000)), (by first | rfl | (simp; done) | (simp [*]; done) | (simp [isEmpty_bne]; done)), H', ⟨by first | omega | exact Nat.le_refl _⟩, ⟨by repeat (first | (with_reducible first | exact HB.out | apply below_alloc | apply pw_below_drewN | apply below_drew1) | exact HB.out)⟩⟩
  case rest =>
    clear HC3
    try clear p2
    try clear c4
    try clear c4b0
    obtain ⟨kq, x7_2, rfl, HA, HJ2, HB⟩ := hcut
    cases kq with
    | zero => exact absurd HA.out (by simp [filewatch_validate.j0])
    | succ kj2 =>
      have H := HA.out
      clear HA
      simp only [filewatch_validate.j0] at H
      by_cases c5 : x7_2 = true
      · subst c5
        have H1 : (some 1) = some r := by rw [if_pos rfl] at H; exact H
        clear H
        have H := H1
        clear H1
        obtain rfl := Option.some.inj H
        go_wp2
        repeat (go_quiet (fail); try go_wp2)
        go_ret
        exact ⟨by first | rfl | (simp [errW_none, errW_some] <;> rfl) | (simp [*, errW_none, errW_some] <;> rfl), by repeat (first | (with_reducible first | exact HB.out | apply below_alloc | apply pw_below_drewN | apply below_drew1) | exact HB.out)⟩
      · replace c5 := Bool.eq_false_iff.mpr c5
        subst c5
        have H1 : (if (l0.length : Int) > 1000 then (some 2) else ((slices_ContainsFunc_61_at_62.f kj2 l0).bind fun t106 => (if t106 = true then (some 7) else (filewatch_validate.l0 kj2 l0 l0 (l0.length : Int) 0)))) = some r := by rw [if_neg (show ¬ (false = true) by decide)] at H; exact H
        clear H
        have H := H1
        clear H1
        by_cases c6 : (l0.length : Int) > 1000
        · rw [if_pos c6] at H
          have c6b0 : decide (1000 < (l0.length : Int)) = true := decide_eq_true c6
          have c6b1 : decide (1000 < l0.length) = true := decide_eq_true (by omega)
          clear c6
          obtain rfl := Option.some.inj H
          go_wp2
          repeat (go_quiet (fail); try go_wp2)
          go_ret
          exact ⟨by first | rfl | (simp [errW_none, errW_some] <;> rfl) | (simp [*, errW_none, errW_some] <;> rfl), by repeat (first | (with_reducible first | exact HB.out | apply below_alloc | apply pw_below_drewN | apply below_drew1) | exact HB.out)⟩
        · rw [if_neg c6] at H
          have c6b0 : decide (1000 < (l0.length : Int)) = false := decide_eq_false c6
          have c6b1 : decide (1000 < l0.length) = false := decide_eq_false (by omega)
          clear c6
          replace H := Option.bind_eq_some_iff.mp H
          obtain ⟨t106, A70, H⟩ := H
          replace H : (if t106 = true then (some 7) else (filewatch_validate.l0 kj2 l0 l0 (l0.length : Int) 0)) = some r := H
          have A7 := Aside0.mk A70
          clear A70
          by_cases c8 : t106 = true
          · subst c8
            have H1 : (some 7) = some r := by rw [if_pos rfl] at H; exact H
            clear H
            have H := H1
            clear H1
            obtain rfl := Option.some.inj H
            go_wp2_with (first | (go_at_call 61; (with_reducible refine (slices_ContainsFunc_61_at_62.calls kj2 _ _ l0  true _ ?side1 ?side2 A7.out).mono ?_); (case side1 => repeat (first | exact (Kd.C_below HR0.out HB.out) | (with_reducible refine Kd.C_alloc ?_ _) | (with_reducible refine Kd.C_drewN ?_ _) | (with_reducible refine Kd.C_drew ?_))); (case side2 => exact HC0.out); rintro e w9 ⟨rfl, hb⟩; have n0_ := Aside0.mk (below_step (by repeat (first | (with_reducible first | exact HB.out | apply below_alloc | apply pw_below_drewN | apply below_drew1) | exact HB.out)) hb); clear HB; have HB := n0_; clear n0_; (try clear hb); (try clear hb2); (try clear hk); (try clear hi)))
            repeat (go_quiet (fail); try go_wp2)
            go_ret
            exact ⟨by first | rfl | (simp [errW_none, errW_some] <;> rfl) | (simp [*, errW_none, errW_some] <;> rfl), by repeat (first | (with_reducible first | exact HB.out | apply below_alloc | apply pw_below_drewN | apply below_drew1) | exact HB.out)⟩
          · replace c8 := Bool.eq_false_iff.mpr c8
            subst c8
            have H1 : (filewatch_validate.l0 kj2 l0 l0 (l0.length : Int) 0) = some r := by rw [if_neg (show ¬ (false = true) by decide)] at H; exact H
            clear H
            have H := H1
            clear H1
            have H' := Aside0.mk H
            clear H
            go_wp2_with (first | (go_at_call 61; (with_reducible refine (slices_ContainsFunc_61_at_62.calls kj2 _ _ l0  false _ ?side1 ?side2 A7.out).mono ?_); (case side1 => repeat (first | exact (Kd.C_below HR0.out HB.out) | (with_reducible refine Kd.C_alloc ?_ _) | (with_reducible refine Kd.C_drewN ?_ _) | (with_reducible refine Kd.C_drew ?_))); (case side2 => exact HC0.out); rintro e w10 ⟨rfl, hb⟩; have n0_ := Aside0.mk (below_step (by repeat (first | (with_reducible first | exact HB.out | apply below_alloc | apply pw_below_drewN | apply below_drew1) | exact HB.out)) hb); clear HB; have HB := n0_; clear n0_; (try clear hb); (try clear hb2); (try clear hk); (try clear hi)))
            repeat (go_quiet (fail); try go_wp2)
            go_loopg [23] kj2 (fun kq v23 w' => ∃ (x23_2 : Int), v23 = .int .i64 x23_2 ∧ Aside0 (filewatch_validate.l0 kq l0 l0 (l0.length : Int) x23_2 = some r) ∧ Aside0 (kq ≤ kj2) ∧ Aside0 (Below w.heap.size w w'))
            case atStart => exact ⟨(0), (by first | rfl | (simp; done) | (simp [*]; done) | (simp [isEmpty_bne]; done)), H', ⟨Nat.le_refl _⟩, ⟨by repeat (first | (with_reducible first | exact HB.out | apply below_alloc | apply pw_below_drewN | apply below_drew1) | exact HB.out)⟩⟩
            case round =>
              clear H'
              try clear p2
              try clear c4
              try clear c4b0
              try clear c5
              try clear c6
              try clear c6b0
              try clear c6b1
              try clear c8
              try clear p2
              obtain ⟨x23_2, rfl, HA, HK2, HB⟩ := hrel
              cases gk with
              | zero => exact absurd HA.out (by simp [filewatch_validate.l0])
              | succ k2 =>
                have H := HA.out
                clear HA
                simp only [filewatch_validate.l0] at H
                by_cases c11 : x23_2 < (l0.length : Int)
                · rw [if_pos c11] at H
                  have c11b0 : decide (x23_2 < (l0.length : Int)) = true := decide_eq_true c11
                  clear c11
                  by_cases c12 : 0 ≤ x23_2
                  · rw [if_pos c12] at H
                    have c12b0 : decide (0 ≤ x23_2) = true := decide_eq_true c12
                    clear c12
                    by_cases c13 : x23_2 < (l0.length : Int)
                    · rw [if_pos c13] at H
                      have c13b0 : decide (x23_2 < (l0.length : Int)) = true := decide_eq_true c13
                      clear c13
                      by_cases c14 : ((rd_T58 l0 x23_2).f0) < 0
                      · rw [if_pos c14] at H
                        have c14b0 : decide (((rd_T58 l0 x23_2).f0) < 0) = true := decide_eq_true c14
                        clear c14
                        obtain rfl := Option.some.inj H
                        have p107 : 0 ≤ (x23_2 : Int) := of_decide_eq_true (by first | (with_reducible assumption) | assumption)
                        have q107 : x23_2 < (l0.length : Int) := of_decide_eq_true (by first | (with_reducible assumption) | assumption)
                        obtain ⟨ad107, e107, hx107_0, hx107_1, hx107_2⟩ := at_T58 HR0.out x23_2 p107 q107
                        cases e107
                        replace hx107_0 := (HB.out.cell (World.block_lt_of_cell? w _ hx107_0)).trans hx107_0
                        replace hx107_1 := (HB.out.cell (World.block_lt_of_cell? w _ hx107_1)).trans hx107_1
                        replace hx107_2 := (HB.out.cell (World.block_lt_of_cell? w _ hx107_2)).trans hx107_2
                        replace p107 := eq_true p107
                        replace q107 := eq_true q107
                        go_wp2_with (first | ((with_reducible refine gate_dst (N := 6) rfl ?_); refine box_event ?hg (N := 6) ?hd (cs := #[.int .i64 0, .string (⟨#[]⟩ : ByteArray), .int .i64 0]) (t := 58) ?hr ?_; (case hd => rfl); (case hg => rfl); (case hr => first | (go_simp; done) | (go_simp; rfl)); intro gb108 hg w15 hbox hb; have n0_ := Aside0.mk (below_step (by repeat (first | (with_reducible first | exact HB.out | apply below_alloc | apply pw_below_drewN | apply below_drew1) | exact HB.out)) hb); have n1_ := Aside0.mk (hbox); have n2_ := Aside0.mk ((by rw [hg]; exact (below_size (by repeat (first | (with_reducible first | exact HB.out | apply below_alloc | apply pw_below_drewN | apply below_drew1) | exact HB.out))) : w.heap.size ≤ gb108)); have n3_ := Aside0.mk ((by rw [hg]; exact (below_size (by repeat (first | (with_reducible first | exact HB.out | apply below_alloc | apply pw_below_drewN | apply below_drew1) | exact HB.out))) : w.heap.size ≤ gb108)); clear HB; have HB := n0_; have BK108 := n1_; have GW108 := n2_; have GE108 := n3_; clear n0_ n1_ n2_ n3_; clear hb hbox hg; have hcz16_0 : w15.cell? ⟨gb108, 0, none⟩ = some (.int .i64 0) := (blk_cell BK108.out 0).trans rfl; have hcz16_1 : w15.cell? ⟨gb108, 1, none⟩ = some (.string (⟨#[]⟩ : ByteArray)) := (blk_cell BK108.out 1).trans rfl; have hcz16_2 : w15.cell? ⟨gb108, 2, none⟩ = some (.int .i64 0) := (blk_cell BK108.out 2).trans rfl; have hfz16_0 := blk_frozen BK108.out 0; have hfz16_1 := blk_frozen BK108.out 1; have hfz16_2 := blk_frozen BK108.out 2))
                        repeat (go_quiet (fail); try go_wp2)
                        go_ret
                        exact ⟨by first | rfl | (simp [errW_none, errW_some] <;> rfl) | (simp [*, errW_none, errW_some] <;> rfl), by repeat (first | (with_reducible first | exact HB.out | apply below_alloc | apply pw_below_drewN | apply below_drew1 | refine below_set ?_ GE108.out) | exact HB.out)⟩
                      · rw [if_neg c14] at H
                        have c14b0 : decide (((rd_T58 l0 x23_2).f0) < 0) = false := decide_eq_false c14
                        clear c14
                        by_cases c17 : ((rd_T58 l0 x23_2).f0) > 1000000000000
                        · rw [if_pos c17] at H
                          have c17b0 : decide (1000000000000 < ((rd_T58 l0 x23_2).f0)) = true := decide_eq_true c17
                          clear c17
                          obtain rfl := Option.some.inj H
                          have p107 : 0 ≤ (x23_2 : Int) := of_decide_eq_true (by first | (with_reducible assumption) | assumption)
                          have q107 : x23_2 < (l0.length : Int) := of_decide_eq_true (by first | (with_reducible assumption) | assumption)
                          obtain ⟨ad107, e107, hx107_0, hx107_1, hx107_2⟩ := at_T58 HR0.out x23_2 p107 q107
                          cases e107
                          replace hx107_0 := (HB.out.cell (World.block_lt_of_cell? w _ hx107_0)).trans hx107_0
                          replace hx107_1 := (HB.out.cell (World.block_lt_of_cell? w _ hx107_1)).trans hx107_1
                          replace hx107_2 := (HB.out.cell (World.block_lt_of_cell? w _ hx107_2)).trans hx107_2
                          replace p107 := eq_true p107
                          replace q107 := eq_true q107
                          go_wp2_with (first | ((with_reducible refine gate_dst (N := 6) rfl ?_); refine box_event ?hg (N := 6) ?hd (cs := #[.int .i64 0, .string (⟨#[]⟩ : ByteArray), .int .i64 0]) (t := 58) ?hr ?_; (case hd => rfl); (case hg => rfl); (case hr => first | (go_simp; done) | (go_simp; rfl)); intro gb108 hg w18 hbox hb; have n0_ := Aside0.mk (below_step (by repeat (first | (with_reducible first | exact HB.out | apply below_alloc | apply pw_below_drewN | apply below_drew1) | exact HB.out)) hb); have n1_ := Aside0.mk (hbox); have n2_ := Aside0.mk ((by rw [hg]; exact (below_size (by repeat (first | (with_reducible first | exact HB.out | apply below_alloc | apply pw_below_drewN | apply below_drew1) | exact HB.out))) : w.heap.size ≤ gb108)); have n3_ := Aside0.mk ((by rw [hg]; exact (below_size (by repeat (first | (with_reducible first | exact HB.out | apply below_alloc | apply pw_below_drewN | apply below_drew1) | exact HB.out))) : w.heap.size ≤ gb108)); clear HB; have HB := n0_; have BK108 := n1_; have GW108 := n2_; have GE108 := n3_; clear n0_ n1_ n2_ n3_; clear hb hbox hg; have hcz19_0 : w18.cell? ⟨gb108, 0, none⟩ = some (.int .i64 0) := (blk_cell BK108.out 0).trans rfl; have hcz19_1 : w18.cell? ⟨gb108, 1, none⟩ = some (.string (⟨#[]⟩ : ByteArray)) := (blk_cell BK108.out 1).trans rfl; have hcz19_2 : w18.cell? ⟨gb108, 2, none⟩ = some (.int .i64 0) := (blk_cell BK108.out 2).trans rfl; have hfz19_0 := blk_frozen BK108.out 0; have hfz19_1 := blk_frozen BK108.out 1; have hfz19_2 := blk_frozen BK108.out 2))
                          repeat (go_quiet (fail); try go_wp2)
                          go_ret
                          exact ⟨by first | rfl | (simp [errW_none, errW_some] <;> rfl) | (simp [*, errW_none, errW_some] <;> rfl), by repeat (first | (with_reducible first | exact HB.out | apply below_alloc | apply pw_below_drewN | apply below_drew1 | refine below_set ?_ GE108.out) | exact HB.out)⟩
                        · rw [if_neg c17] at H
                          have c17b0 : decide (1000000000000 < ((rd_T58 l0 x23_2).f0)) = false := decide_eq_false c17
                          clear c17
                          by_cases c20 : x23_2 > 0
                          · rw [if_pos c20] at H
                            have c20b0 : decide (0 < x23_2) = true := decide_eq_true c20
                            clear c20
                            obtain ⟨ji21, hji21⟩ : ∃ j_ : Int, (wrap64 (x23_2 - 1)) = j_ := ⟨_, rfl⟩
                            replace H : (if 0 ≤ (ji21) then (if (ji21) < (l0.length : Int) then (if ((rd_T58 l0 x23_2).f0) < ((rd_T58 l0 (ji21)).f0) then (some 3) else (filewatch_validate.l0 k2 l0 l0 (l0.length : Int) (wrap64 (x23_2 + 1)))) else (none)) else (none)) = some r := by first | (rw [hji21] at H; exact H) | (simp only [hji21] at H ⊢; exact H)
                            have hji21w : (IntKind.i64.wrap (x23_2 - 1)) = ji21 := (i64_w _).trans hji21
                            by_cases c22 : 0 ≤ (ji21)
                            · rw [if_pos c22] at H
                              have c22b0 : decide (0 ≤ (ji21)) = true := decide_eq_true c22
                              clear c22
                              by_cases c23 : (ji21) < (l0.length : Int)
                              · rw [if_pos c23] at H
                                have c23b0 : decide ((ji21) < (l0.length : Int)) = true := decide_eq_true c23
                                clear c23
                                by_cases c24 : ((rd_T58 l0 x23_2).f0) < ((rd_T58 l0 (ji21)).f0)
                                · rw [if_pos c24] at H
                                  have c24b0 : decide (((rd_T58 l0 x23_2).f0) < ((rd_T58 l0 (ji21)).f0)) = true := decide_eq_true c24
                                  clear c24
                                  obtain rfl := Option.some.inj H
                                  have p107 : 0 ≤ (x23_2 : Int) := of_decide_eq_true (by first | (with_reducible assumption) | assumption)
                                  have q107 : x23_2 < (l0.length : Int) := of_decide_eq_true (by first | (with_reducible assumption) | assumption)
                                  obtain ⟨ad107, e107, hx107_0, hx107_1, hx107_2⟩ := at_T58 HR0.out x23_2 p107 q107
                                  cases e107
                                  replace hx107_0 := (HB.out.cell (World.block_lt_of_cell? w _ hx107_0)).trans hx107_0
                                  replace hx107_1 := (HB.out.cell (World.block_lt_of_cell? w _ hx107_1)).trans hx107_1
                                  replace hx107_2 := (HB.out.cell (World.block_lt_of_cell? w _ hx107_2)).trans hx107_2
                                  replace p107 := eq_true p107
                                  replace q107 := eq_true q107
                                  go_wp2_with (first | ((with_reducible refine gate_dst (N := 6) rfl ?_); refine box_event ?hg (N := 6) ?hd (cs := #[.int .i64 0, .string (⟨#[]⟩ : ByteArray), .int .i64 0]) (t := 58) ?hr ?_; (case hd => rfl); (case hg => rfl); (case hr => first | (go_simp; done) | (go_simp; rfl)); intro gb108 hg w25 hbox hb; have n0_ := Aside0.mk (below_step (by repeat (first | (with_reducible first | exact HB.out | apply below_alloc | apply pw_below_drewN | apply below_drew1) | exact HB.out)) hb); have n1_ := Aside0.mk (hbox); have n2_ := Aside0.mk ((by rw [hg]; exact (below_size (by repeat (first | (with_reducible first | exact HB.out | apply below_alloc | apply pw_below_drewN | apply below_drew1) | exact HB.out))) : w.heap.size ≤ gb108)); have n3_ := Aside0.mk ((by rw [hg]; exact (below_size (by repeat (first | (with_reducible first | exact HB.out | apply below_alloc | apply pw_below_drewN | apply below_drew1) | exact HB.out))) : w.heap.size ≤ gb108)); clear HB; have HB := n0_; have BK108 := n1_; have GW108 := n2_; have GE108 := n3_; clear n0_ n1_ n2_ n3_; clear hb hbox hg; have hcz26_0 : w25.cell? ⟨gb108, 0, none⟩ = some (.int .i64 0) := (blk_cell BK108.out 0).trans rfl; have hcz26_1 : w25.cell? ⟨gb108, 1, none⟩ = some (.string (⟨#[]⟩ : ByteArray)) := (blk_cell BK108.out 1).trans rfl; have hcz26_2 : w25.cell? ⟨gb108, 2, none⟩ = some (.int .i64 0) := (blk_cell BK108.out 2).trans rfl; have hfz26_0 := blk_frozen BK108.out 0; have hfz26_1 := blk_frozen BK108.out 1; have hfz26_2 := blk_frozen BK108.out 2; have p109 : 0 ≤ ((ji21) : Int) := of_decide_eq_true (by first | (with_reducible assumption) | assumption); have q109 : (ji21) < (l0.length : Int) := of_decide_eq_true (by first | (with_reducible assumption) | assumption); obtain ⟨ad109, e109, hx109_0, hx109_1, hx109_2⟩ := at_T58 HR0.out (ji21) p109 q109; obtain rfl : ad107 = ad109 := (by injection e109); have hn109_0 : ad107.block ≠ gb108 := Nat.ne_of_lt (Nat.lt_of_lt_of_le (by have := World.block_lt_of_cell? _ _ hx109_0; first | rwa [add_block] at this | exact this) GW108.out); have hn109_1 : ad107.block ≠ gb108 := Nat.ne_of_lt (Nat.lt_of_lt_of_le (by have := World.block_lt_of_cell? _ _ hx109_0; first | rwa [add_block] at this | exact this) GW108.out); have hn109_2 : ad107.block ≠ gb108 := Nat.ne_of_lt (Nat.lt_of_lt_of_le (by have := World.block_lt_of_cell? _ _ hx109_0; first | rwa [add_block] at this | exact this) GW108.out); replace hx109_0 := (HB.out.cell (World.block_lt_of_cell? w _ hx109_0)).trans hx109_0; replace hx109_1 := (HB.out.cell (World.block_lt_of_cell? w _ hx109_1)).trans hx109_1; replace hx109_2 := (HB.out.cell (World.block_lt_of_cell? w _ hx109_2)).trans hx109_2; replace hx109_0 := (cell_far (p := ⟨gb108, 0, none⟩) (by first | (rw [add_block]; exact hn109_0) | (show (Addr.add _ _).block ≠ _; rw [add_block]; exact hn109_0) | exact hn109_0) (.int .i64 ((rd_T58 l0 x23_2).f0))).trans hx109_0; replace hx109_1 := (cell_far (p := ⟨gb108, 0, none⟩) (by first | (rw [add_block]; exact hn109_0) | (show (Addr.add _ _).block ≠ _; rw [add_block]; exact hn109_0) | exact hn109_0) (.int .i64 ((rd_T58 l0 x23_2).f0))).trans hx109_1; replace hx109_2 := (cell_far (p := ⟨gb108, 0, none⟩) (by first | (rw [add_block]; exact hn109_0) | (show (Addr.add _ _).block ≠ _; rw [add_block]; exact hn109_0) | exact hn109_0) (.int .i64 ((rd_T58 l0 x23_2).f0))).trans hx109_2; replace hx109_0 := (cell_far (p := ⟨gb108, 1, none⟩) (by first | (rw [add_block]; exact hn109_1) | (show (Addr.add _ _).block ≠ _; rw [add_block]; exact hn109_1) | exact hn109_1) (.string ((rd_T58 l0 x23_2).f1))).trans hx109_0; replace hx109_1 := (cell_far (p := ⟨gb108, 1, none⟩) (by first | (rw [add_block]; exact hn109_1) | (show (Addr.add _ _).block ≠ _; rw [add_block]; exact hn109_1) | exact hn109_1) (.string ((rd_T58 l0 x23_2).f1))).trans hx109_1; replace hx109_2 := (cell_far (p := ⟨gb108, 1, none⟩) (by first | (rw [add_block]; exact hn109_1) | (show (Addr.add _ _).block ≠ _; rw [add_block]; exact hn109_1) | exact hn109_1) (.string ((rd_T58 l0 x23_2).f1))).trans hx109_2; replace hx109_0 := (cell_far (p := ⟨gb108, 2, none⟩) (by first | (rw [add_block]; exact hn109_2) | (show (Addr.add _ _).block ≠ _; rw [add_block]; exact hn109_2) | exact hn109_2) (.int .i64 ((rd_T58 l0 x23_2).f2))).trans hx109_0; replace hx109_1 := (cell_far (p := ⟨gb108, 2, none⟩) (by first | (rw [add_block]; exact hn109_2) | (show (Addr.add _ _).block ≠ _; rw [add_block]; exact hn109_2) | exact hn109_2) (.int .i64 ((rd_T58 l0 x23_2).f2))).trans hx109_1; replace hx109_2 := (cell_far (p := ⟨gb108, 2, none⟩) (by first | (rw [add_block]; exact hn109_2) | (show (Addr.add _ _).block ≠ _; rw [add_block]; exact hn109_2) | exact hn109_2) (.int .i64 ((rd_T58 l0 x23_2).f2))).trans hx109_2; (try have hy109_0 := fun (n_ : Nat) => (show (((((w25.drewN n_).setCell ⟨gb108, 0, none⟩ (.int .i64 ((rd_T58 l0 x23_2).f0))).setCell ⟨gb108, 1, none⟩ (.string ((rd_T58 l0 x23_2).f1))).setCell ⟨gb108, 2, none⟩ (.int .i64 ((rd_T58 l0 x23_2).f2)))).cell? _ = some _ from hx109_0)); (try have hy109_1 := fun (n_ : Nat) => (show (((((w25.drewN n_).setCell ⟨gb108, 0, none⟩ (.int .i64 ((rd_T58 l0 x23_2).f0))).setCell ⟨gb108, 1, none⟩ (.string ((rd_T58 l0 x23_2).f1))).setCell ⟨gb108, 2, none⟩ (.int .i64 ((rd_T58 l0 x23_2).f2)))).cell? _ = some _ from hx109_1)); (try have hy109_2 := fun (n_ : Nat) => (show (((((w25.drewN n_).setCell ⟨gb108, 0, none⟩ (.int .i64 ((rd_T58 l0 x23_2).f0))).setCell ⟨gb108, 1, none⟩ (.string ((rd_T58 l0 x23_2).f1))).setCell ⟨gb108, 2, none⟩ (.int .i64 ((rd_T58 l0 x23_2).f2)))).cell? _ = some _ from hx109_2)); clear hn109_0; clear hn109_1; clear hn109_2; replace p109 := eq_true p109; replace q109 := eq_true q109))
                                  repeat (go_quiet (fail); try go_wp2)
                                  go_ret
                                  exact ⟨by first | rfl | (simp [errW_none, errW_some] <;> rfl) | (simp only [← hji21]; first | rfl | (simp [errW_none, errW_some] <;> rfl)) | (simp [*, errW_none, errW_some] <;> rfl), by repeat (first | (with_reducible first | exact HB.out | apply below_alloc | apply pw_below_drewN | apply below_drew1 | refine below_set ?_ GE108.out) | exact HB.out)⟩
                                · rw [if_neg c24] at H
                                  have c24b0 : decide (((rd_T58 l0 x23_2).f0) < ((rd_T58 l0 (ji21)).f0)) = false := decide_eq_false c24
                                  clear c24
                                  have H' := Aside0.mk H
                                  clear H
                                  have p107 : 0 ≤ (x23_2 : Int) := of_decide_eq_true (by first | (with_reducible assumption) | assumption)
                                  have q107 : x23_2 < (l0.length : Int) := of_decide_eq_true (by first | (with_reducible assumption) | assumption)
                                  obtain ⟨ad107, e107, hx107_0, hx107_1, hx107_2⟩ := at_T58 HR0.out x23_2 p107 q107
                                  cases e107
                                  replace hx107_0 := (HB.out.cell (World.block_lt_of_cell? w _ hx107_0)).trans hx107_0
                                  replace hx107_1 := (HB.out.cell (World.block_lt_of_cell? w _ hx107_1)).trans hx107_1
                                  replace hx107_2 := (HB.out.cell (World.block_lt_of_cell? w _ hx107_2)).trans hx107_2
                                  replace p107 := eq_true p107
                                  replace q107 := eq_true q107
                                  go_wp2_with (first | ((with_reducible refine gate_dst (N := 6) rfl ?_); refine box_event ?hg (N := 6) ?hd (cs := #[.int .i64 0, .string (⟨#[]⟩ : ByteArray), .int .i64 0]) (t := 58) ?hr ?_; (case hd => rfl); (case hg => rfl); (case hr => first | (go_simp; done) | (go_simp; rfl)); intro gb108 hg w27 hbox hb; have n0_ := Aside0.mk (below_step (by repeat (first | (with_reducible first | exact HB.out | apply below_alloc | apply pw_below_drewN | apply below_drew1) | exact HB.out)) hb); have n1_ := Aside0.mk (hbox); have n2_ := Aside0.mk ((by rw [hg]; exact (below_size (by repeat (first | (with_reducible first | exact HB.out | apply below_alloc | apply pw_below_drewN | apply below_drew1) | exact HB.out))) : w.heap.size ≤ gb108)); have n3_ := Aside0.mk ((by rw [hg]; exact (below_size (by repeat (first | (with_reducible first | exact HB.out | apply below_alloc | apply pw_below_drewN | apply below_drew1) | exact HB.out))) : w.heap.size ≤ gb108)); clear HB; have HB := n0_; have BK108 := n1_; have GW108 := n2_; have GE108 := n3_; clear n0_ n1_ n2_ n3_; clear hb hbox hg; have hcz28_0 : w27.cell? ⟨gb108, 0, none⟩ = some (.int .i64 0) := (blk_cell BK108.out 0).trans rfl; have hcz28_1 : w27.cell? ⟨gb108, 1, none⟩ = some (.string (⟨#[]⟩ : ByteArray)) := (blk_cell BK108.out 1).trans rfl; have hcz28_2 : w27.cell? ⟨gb108, 2, none⟩ = some (.int .i64 0) := (blk_cell BK108.out 2).trans rfl; have hfz28_0 := blk_frozen BK108.out 0; have hfz28_1 := blk_frozen BK108.out 1; have hfz28_2 := blk_frozen BK108.out 2; have p109 : 0 ≤ ((ji21) : Int) := of_decide_eq_true (by first | (with_reducible assumption) | assumption); have q109 : (ji21) < (l0.length : Int) := of_decide_eq_true (by first | (with_reducible assumption) | assumption); obtain ⟨ad109, e109, hx109_0, hx109_1, hx109_2⟩ := at_T58 HR0.out (ji21) p109 q109; obtain rfl : ad107 = ad109 := (by injection e109); have hn109_0 : ad107.block ≠ gb108 := Nat.ne_of_lt (Nat.lt_of_lt_of_le (by have := World.block_lt_of_cell? _ _ hx109_0; first | rwa [add_block] at this | exact this) GW108.out); have hn109_1 : ad107.block ≠ gb108 := Nat.ne_of_lt (Nat.lt_of_lt_of_le (by have := World.block_lt_of_cell? _ _ hx109_0; first | rwa [add_block] at this | exact this) GW108.out); have hn109_2 : ad107.block ≠ gb108 := Nat.ne_of_lt (Nat.lt_of_lt_of_le (by have := World.block_lt_of_cell? _ _ hx109_0; first | rwa [add_block] at this | exact this) GW108.out); replace hx109_0 := (HB.out.cell (World.block_lt_of_cell? w _ hx109_0)).trans hx109_0; replace hx109_1 := (HB.out.cell (World.block_lt_of_cell? w _ hx109_1)).trans hx109_1; replace hx109_2 := (HB.out.cell (World.block_lt_of_cell? w _ hx109_2)).trans hx109_2; replace hx109_0 := (cell_far (p := ⟨gb108, 0, none⟩) (by first | (rw [add_block]; exact hn109_0) | (show (Addr.add _ _).block ≠ _; rw [add_block]; exact hn109_0) | exact hn109_0) (.int .i64 ((rd_T58 l0 x23_2).f0))).trans hx109_0; replace hx109_1 := (cell_far (p := ⟨gb108, 0, none⟩) (by first | (rw [add_block]; exact hn109_0) | (show (Addr.add _ _).block ≠ _; rw [add_block]; exact hn109_0) | exact hn109_0) (.int .i64 ((rd_T58 l0 x23_2).f0))).trans hx109_1; replace hx109_2 := (cell_far (p := ⟨gb108, 0, none⟩) (by first | (rw [add_block]; exact hn109_0) | (show (Addr.add _ _).block ≠ _; rw [add_block]; exact hn109_0) | exact hn109_0) (.int .i64 ((rd_T58 l0 x23_2).f0))).trans hx109_2; replace hx109_0 := (cell_far (p := ⟨gb108, 1, none⟩) (by first | (rw [add_block]; exact hn109_1) | (show (Addr.add _ _).block ≠ _; rw [add_block]; exact hn109_1) | exact hn109_1) (.string ((rd_T58 l0 x23_2).f1))).trans hx109_0; replace hx109_1 := (cell_far (p := ⟨gb108, 1, none⟩) (by first | (rw [add_block]; exact hn109_1) | (show (Addr.add _ _).block ≠ _; rw [add_block]; exact hn109_1) | exact hn109_1) (.string ((rd_T58 l0 x23_2).f1))).trans hx109_1; replace hx109_2 := (cell_far (p := ⟨gb108, 1, none⟩) (by first | (rw [add_block]; exact hn109_1) | (show (Addr.add _ _).block ≠ _; rw [add_block]; exact hn109_1) | exact hn109_1) (.string ((rd_T58 l0 x23_2).f1))).trans hx109_2; replace hx109_0 := (cell_far (p := ⟨gb108, 2, none⟩) (by first | (rw [add_block]; exact hn109_2) | (show (Addr.add _ _).block ≠ _; rw [add_block]; exact hn109_2) | exact hn109_2) (.int .i64 ((rd_T58 l0 x23_2).f2))).trans hx109_0; replace hx109_1 := (cell_far (p := ⟨gb108, 2, none⟩) (by first | (rw [add_block]; exact hn109_2) | (show (Addr.add _ _).block ≠ _; rw [add_block]; exact hn109_2) | exact hn109_2) (.int .i64 ((rd_T58 l0 x23_2).f2))).trans hx109_1; replace hx109_2 := (cell_far (p := ⟨gb108, 2, none⟩) (by first | (rw [add_block]; exact hn109_2) | (show (Addr.add _ _).block ≠ _; rw [add_block]; exact hn109_2) | exact hn109_2) (.int .i64 ((rd_T58 l0 x23_2).f2))).trans hx109_2; (try have hy109_0 := fun (n_ : Nat) => (show (((((w27.drewN n_).setCell ⟨gb108, 0, none⟩ (.int .i64 ((rd_T58 l0 x23_2).f0))).setCell ⟨gb108, 1, none⟩ (.string ((rd_T58 l0 x23_2).f1))).setCell ⟨gb108, 2, none⟩ (.int .i64 ((rd_T58 l0 x23_2).f2)))).cell? _ = some _ from hx109_0)); (try have hy109_1 := fun (n_ : Nat) => (show (((((w27.drewN n_).setCell ⟨gb108, 0, none⟩ (.int .i64 ((rd_T58 l0 x23_2).f0))).setCell ⟨gb108, 1, none⟩ (.string ((rd_T58 l0 x23_2).f1))).setCell ⟨gb108, 2, none⟩ (.int .i64 ((rd_T58 l0 x23_2).f2)))).cell? _ = some _ from hx109_1)); (try have hy109_2 := fun (n_ : Nat) => (show (((((w27.drewN n_).setCell ⟨gb108, 0, none⟩ (.int .i64 ((rd_T58 l0 x23_2).f0))).setCell ⟨gb108, 1, none⟩ (.string ((rd_T58 l0 x23_2).f1))).setCell ⟨gb108, 2, none⟩ (.int .i64 ((rd_T58 l0 x23_2).f2)))).cell? _ = some _ from hx109_2)); clear hn109_0; clear hn109_1; clear hn109_2; replace p109 := eq_true p109; replace q109 := eq_true q109))
                                  repeat (go_quiet (fail); try go_wp2)
                                  go_roundg k2
                                  case measure => have := HJ2.out; have := HK2.out; omega
                                  case rel => exact ⟨(wrap64 (x23_2 + 1)), (by first | rfl | (simp; done) | (simp [*]; done) | (simp [isEmpty_bne]; done)), H', ⟨by have := HJ2.out; have := HK2.out; omega⟩, ⟨by repeat (first | (with_reducible first | exact HB.out | apply below_alloc | apply pw_below_drewN | apply below_drew1 | refine below_set ?_ GE108.out) | exact HB.out)⟩⟩
                              · rw [if_neg c23] at H
                                exact absurd H (by simp)
                            · rw [if_neg c22] at H
                              exact absurd H (by simp)
                          · rw [if_neg c20] at H
                            have c20b0 : decide (0 < x23_2) = false := decide_eq_false c20
                            clear c20
                            have H' := Aside0.mk H
                            clear H
                            have p107 : 0 ≤ (x23_2 : Int) := of_decide_eq_true (by first | (with_reducible assumption) | assumption)
                            have q107 : x23_2 < (l0.length : Int) := of_decide_eq_true (by first | (with_reducible assumption) | assumption)
                            obtain ⟨ad107, e107, hx107_0, hx107_1, hx107_2⟩ := at_T58 HR0.out x23_2 p107 q107
                            cases e107
                            replace hx107_0 := (HB.out.cell (World.block_lt_of_cell? w _ hx107_0)).trans hx107_0
                            replace hx107_1 := (HB.out.cell (World.block_lt_of_cell? w _ hx107_1)).trans hx107_1
                            replace hx107_2 := (HB.out.cell (World.block_lt_of_cell? w _ hx107_2)).trans hx107_2
                            replace p107 := eq_true p107
                            replace q107 := eq_true q107
                            go_wp2_with (first | ((with_reducible refine gate_dst (N := 6) rfl ?_); refine box_event ?hg (N := 6) ?hd (cs := #[.int .i64 0, .string (⟨#[]⟩ : ByteArray), .int .i64 0]) (t := 58) ?hr ?_; (case hd => rfl); (case hg => rfl); (case hr => first | (go_simp; done) | (go_simp; rfl)); intro gb108 hg w29 hbox hb; have n0_ := Aside0.mk (below_step (by repeat (first | (with_reducible first | exact HB.out | apply below_alloc | apply pw_below_drewN | apply below_drew1) | exact HB.out)) hb); have n1_ := Aside0.mk (hbox); have n2_ := Aside0.mk ((by rw [hg]; exact (below_size (by repeat (first | (with_reducible first | exact HB.out | apply below_alloc | apply pw_below_drewN | apply below_drew1) | exact HB.out))) : w.heap.size ≤ gb108)); have n3_ := Aside0.mk ((by rw [hg]; exact (below_size (by repeat (first | (with_reducible first | exact HB.out | apply below_alloc | apply pw_below_drewN | apply below_drew1) | exact HB.out))) : w.heap.size ≤ gb108)); clear HB; have HB := n0_; have BK108 := n1_; have GW108 := n2_; have GE108 := n3_; clear n0_ n1_ n2_ n3_; clear hb hbox hg; have hcz30_0 : w29.cell? ⟨gb108, 0, none⟩ = some (.int .i64 0) := (blk_cell BK108.out 0).trans rfl; have hcz30_1 : w29.cell? ⟨gb108, 1, none⟩ = some (.string (⟨#[]⟩ : ByteArray)) := (blk_cell BK108.out 1).trans rfl; have hcz30_2 : w29.cell? ⟨gb108, 2, none⟩ = some (.int .i64 0) := (blk_cell BK108.out 2).trans rfl; have hfz30_0 := blk_frozen BK108.out 0; have hfz30_1 := blk_frozen BK108.out 1; have hfz30_2 := blk_frozen BK108.out 2))
                            repeat (go_quiet (fail); try go_wp2)
                            go_roundg k2
                            case measure => have := HJ2.out; have := HK2.out; omega
                            case rel => exact ⟨(wrap64 (x23_2 + 1)), (by first | rfl | (simp; done) | (simp [*]; done) | (simp [isEmpty_bne]; done)), H', ⟨by have := HJ2.out; have := HK2.out; omega⟩, ⟨by repeat (first | (with_reducible first | exact HB.out | apply below_alloc | apply pw_below_drewN | apply below_drew1 | refine below_set ?_ GE108.out) | exact HB.out)⟩⟩
                    · rw [if_neg c13] at H
                      exact absurd H (by simp)
                  · rw [if_neg c12] at H
                    exact absurd H (by simp)
                · rw [if_neg c11] at H
                  have c11b0 : decide (x23_2 < (l0.length : Int)) = false := decide_eq_false c11
                  clear c11
                  obtain rfl := Option.some.inj H
                  go_wp2
                  repeat (go_quiet (fail); try go_wp2)
                  go_ret
                  exact ⟨by first | rfl | (simp [errW_none, errW_some] <;> rfl) | (simp [*, errW_none, errW_some] <;> rfl), by repeat (first | (with_reducible first | exact HB.out | apply below_alloc | apply pw_below_drewN | apply below_drew1) | exact HB.out)⟩

/-! ### filewatch_Merge: function 21 -/
mutual
def filewatch_Merge.j0 : Nat → Int → Int → Bool → Option (Int)
  | 0, _, _, _ => none
  | k + 1, x0, x1, x5 => if x5 = true then (some 0) else ((filewatch_validKind.f x1).bind fun t112 => (if t112 = true then ((filewatch_validKind.f x0).bind fun t113 => (if t113 = true then (if x0 = 1 then (filewatch_Merge.j1 k x0 x1 (x1 == 3)) else (filewatch_Merge.j1 k x0 x1 false)) else (some x1))) else (some x0)))
def filewatch_Merge.j1 : Nat → Int → Int → Bool → Option (Int)
  | 0, _, _, _ => none
  | k + 1, x0, x1, x24 => if x24 = true then (some 0) else (if x0 = 1 then (some 1) else (if x1 = 3 then (some 3) else (some 2)))
end
def filewatch_Merge.f (k : Nat) (a0 : Int) (a1 : Int) : Option (Int) := (filewatch_validKind.f a0).bind fun t110 => (if t110 = true then (filewatch_Merge.j0 k a0 a1 false) else ((filewatch_validKind.f a1).bind fun t111 => (filewatch_Merge.j0 k a0 a1 (!t111))))
theorem filewatch_Merge.mono_l : ∀ k, (∀ y0 y1 y2, LeO (filewatch_Merge.j0 k y0 y1 y2) (filewatch_Merge.j0 (k + 1) y0 y1 y2)) ∧ (∀ y0 y1 y2, LeO (filewatch_Merge.j1 k y0 y1 y2) (filewatch_Merge.j1 (k + 1) y0 y1 y2))
  | 0 => ⟨fun _ _ _ r h => by simp [filewatch_Merge.j0] at h, fun _ _ _ r h => by simp [filewatch_Merge.j1] at h⟩
  | k + 1 => by
    obtain ⟨ih0, ih1⟩ := filewatch_Merge.mono_l k
    refine ⟨?_, ?_⟩
    · intro y0 y1 y2
      unfold filewatch_Merge.j0
      repeat' first
      | (with_reducible exact ih0 _ _ _)
      | (with_reducible exact ih1 _ _ _)
      | (with_reducible exact LeO.refl _)
      | (with_reducible exact LeO.none _)
      | (with_reducible refine LeO.ite ?_ ?_)
      | (with_reducible refine LeO.bind ?_ (fun _ => ?_))
      | exact ih0 _ _ _
      | exact ih1 _ _ _
      | exact LeO.none _
      | refine LeO.ite ?_ ?_
      | refine LeO.bind ?_ (fun _ => ?_)
    · intro y0 y1 y2
      unfold filewatch_Merge.j1
      repeat' first
      | (with_reducible exact ih0 _ _ _)
      | (with_reducible exact ih1 _ _ _)
      | (with_reducible exact LeO.refl _)
      | (with_reducible exact LeO.none _)
      | (with_reducible refine LeO.ite ?_ ?_)
      | (with_reducible refine LeO.bind ?_ (fun _ => ?_))
      | exact ih0 _ _ _
      | exact ih1 _ _ _
      | exact LeO.none _
      | refine LeO.ite ?_ ?_
      | refine LeO.bind ?_ (fun _ => ?_)
theorem filewatch_Merge.mono : ∀ a0 a1 k, LeO (filewatch_Merge.f k a0 a1) (filewatch_Merge.f (k + 1) a0 a1) := by
  intro a0 a1 k
  obtain ⟨ih0, ih1⟩ := filewatch_Merge.mono_l k
  unfold filewatch_Merge.f
  repeat' first
      | (with_reducible exact ih0 _ _ _)
      | (with_reducible exact ih1 _ _ _)
      | (with_reducible exact LeO.refl _)
      | (with_reducible exact LeO.none _)
      | (with_reducible refine LeO.ite ?_ ?_)
      | (with_reducible refine LeO.bind ?_ (fun _ => ?_))
      | exact ih0 _ _ _
      | exact ih1 _ _ _
      | exact LeO.none _
      | refine LeO.ite ?_ ?_
      | refine LeO.bind ?_ (fun _ => ?_)
set_option maxHeartbeats 8000000 in
set_option maxRecDepth 100000 in
theorem filewatch_Merge.calls (k : Nat) (a0 : Int) (a1 : Int) (r : Int) (w : World) (h : filewatch_Merge.f k a0 a1 = some r) :
    Calls Try.prog 21 #[.int .i64 a0, .int .i64 a1] w fun e w' => e = .returned (.int .i64 r) ∧ Drawn0 w w' := by
  have H : ((filewatch_validKind.f a0).bind fun t110 => (if t110 = true then (filewatch_Merge.j0 k a0 a1 false) else ((filewatch_validKind.f a1).bind fun t111 => (filewatch_Merge.j0 k a0 a1 (!t111))))) = some r := h
  clear h
  have HC3 := Aside0.mk H
  clear H
  go_enter Try.func21, Try.ntmps21
  go_upto_region 1 with (fail)
  go_cut [5] (fun v5 wc => ∃ (kq : Nat) (x5_2 : Bool), v5 = .bool x5_2 ∧ Aside0 (filewatch_Merge.j0 kq a0 a1 x5_2 = some r) ∧ Aside0 (kq ≤ k) ∧ Drawn0 w wc)
  case first =>
    have H := HC3.out
    clear HC3
    replace H := Option.bind_eq_some_iff.mp H
    obtain ⟨t110, A40, H⟩ := H
    replace H : (if t110 = true then (filewatch_Merge.j0 k a0 a1 false) else ((filewatch_validKind.f a1).bind fun t111 => (filewatch_Merge.j0 k a0 a1 (!t111)))) = some r := H
    have A4 := Aside0.mk A40
    clear A40
    by_cases c5 : t110 = true
    · subst c5
      have H1 : (filewatch_Merge.j0 k a0 a1 false) = some r := by rw [if_pos rfl] at H; exact H
      clear H
      have H := H1
      clear H1
      have H' := Aside0.mk H
      clear H
      go_wp2_with (first | ((with_reducible refine gate_callee (f := 49) rfl ?_); refine goesL_ (some 7) rfl rfl Try.func49 (by kernel_rfl) rfl #[.int .i64 a0] rfl (by (try simp only [List.map_toArray, List.map_cons, List.map_nil]); first | done | rfl | (simp only [List.length_drop, List.length_take]; rfl)) ?_; (with_reducible refine (filewatch_validKind.calls a0 true _ A4.out).mono ?_); rintro e w' ⟨rfl, ⟨nd, rfl⟩⟩; refine ⟨_, rfl, ?_⟩))
      go_meet
      case rel => exact ⟨_, (false), (by first | rfl | (simp; done) | (simp [*]; done) | (simp [isEmpty_bne]; done)), H', ⟨by first | omega | exact Nat.le_refl _⟩, by repeat (first | exact Drawn0.refl _ | apply Drawn0.step)⟩
    · replace c5 := Bool.eq_false_iff.mpr c5
      subst c5
      have H1 : ((filewatch_validKind.f a1).bind fun t111 => (filewatch_Merge.j0 k a0 a1 (!t111))) = some r := by rw [if_neg (show ¬ (false = true) by decide)] at H; exact H
      clear H
      have H := H1
      clear H1
      replace H := Option.bind_eq_some_iff.mp H
      obtain ⟨t111, A60, H⟩ := H
      replace H : (filewatch_Merge.j0 k a0 a1 (!t111)) = some r := H
      have A6 := Aside0.mk A60
      clear A60
      have H' := Aside0.mk H
      clear H
      go_wp2_with (first | ((with_reducible refine gate_callee (f := 49) rfl ?_); refine goesL_ (some 7) rfl rfl Try.func49 (by kernel_rfl) rfl #[.int .i64 a0] rfl (by (try simp only [List.map_toArray, List.map_cons, List.map_nil]); first | done | rfl | (simp only [List.length_drop, List.length_take]; rfl)) ?_; (with_reducible refine (filewatch_validKind.calls a0 false _ A4.out).mono ?_); rintro e w' ⟨rfl, ⟨nd, rfl⟩⟩; refine ⟨_, rfl, ?_⟩) | (go_at_call 49; (with_reducible refine (filewatch_validKind.calls a1 t111 _ A6.out).mono ?_); rintro e w' ⟨rfl, ⟨nd, rfl⟩⟩))
      go_meet
      case rel => exact ⟨_, (!t111), (by first | rfl | (simp; done) | (simp [*]; done) | (simp [isEmpty_bne]; done)), H', ⟨by first | omega | exact Nat.le_refl _⟩, by repeat (first | exact Drawn0.refl _ | apply Drawn0.step)⟩
  case rest =>
    clear HC3
    try clear c2
    try clear p2
    try clear c4
    try clear c5
    obtain ⟨kq, x5_2, rfl, HA, HJ2, ⟨mc2, rfl⟩⟩ := hcut
    cases kq with
    | zero => exact absurd HA.out (by simp [filewatch_Merge.j0])
    | succ kj2 =>
      have H := HA.out
      clear HA
      simp only [filewatch_Merge.j0] at H
      by_cases c7 : x5_2 = true
      · subst c7
        have H1 : (some 0) = some r := by rw [if_pos rfl] at H; exact H
        clear H
        have H := H1
        clear H1
        obtain rfl := Option.some.inj H
        go_wp2
        go_ret
        exact ⟨by first | rfl | (simp; done) | (simp [*]; done), by repeat (first | exact Drawn0.refl _ | apply Drawn0.step)⟩
      · replace c7 := Bool.eq_false_iff.mpr c7
        subst c7
        have H1 : ((filewatch_validKind.f a1).bind fun t112 => (if t112 = true then ((filewatch_validKind.f a0).bind fun t113 => (if t113 = true then (if a0 = 1 then (filewatch_Merge.j1 kj2 a0 a1 (a1 == 3)) else (filewatch_Merge.j1 kj2 a0 a1 false)) else (some a1))) else (some a0))) = some r := by rw [if_neg (show ¬ (false = true) by decide)] at H; exact H
        clear H
        have H := H1
        clear H1
        replace H := Option.bind_eq_some_iff.mp H
        obtain ⟨t112, A80, H⟩ := H
        replace H : (if t112 = true then ((filewatch_validKind.f a0).bind fun t113 => (if t113 = true then (if a0 = 1 then (filewatch_Merge.j1 kj2 a0 a1 (a1 == 3)) else (filewatch_Merge.j1 kj2 a0 a1 false)) else (some a1))) else (some a0)) = some r := H
        have A8 := Aside0.mk A80
        clear A80
        by_cases c9 : t112 = true
        · subst c9
          have H1 : ((filewatch_validKind.f a0).bind fun t113 => (if t113 = true then (if a0 = 1 then (filewatch_Merge.j1 kj2 a0 a1 (a1 == 3)) else (filewatch_Merge.j1 kj2 a0 a1 false)) else (some a1))) = some r := by rw [if_pos rfl] at H; exact H
          clear H
          have H := H1
          clear H1
          replace H := Option.bind_eq_some_iff.mp H
          obtain ⟨t113, A100, H⟩ := H
          replace H : (if t113 = true then (if a0 = 1 then (filewatch_Merge.j1 kj2 a0 a1 (a1 == 3)) else (filewatch_Merge.j1 kj2 a0 a1 false)) else (some a1)) = some r := H
          have A10 := Aside0.mk A100
          clear A100
          by_cases c11 : t113 = true
          · subst c11
            have H1 : (if a0 = 1 then (filewatch_Merge.j1 kj2 a0 a1 (a1 == 3)) else (filewatch_Merge.j1 kj2 a0 a1 false)) = some r := by rw [if_pos rfl] at H; exact H
            clear H
            have H := H1
            clear H1
            have HC12 := Aside0.mk H
            clear H
            go_upto_region 7 with (first | ((with_reducible refine gate_callee (f := 49) rfl ?_); refine goesL_ (some 16) rfl rfl Try.func49 (by kernel_rfl) rfl #[.int .i64 a1] rfl (by (try simp only [List.map_toArray, List.map_cons, List.map_nil]); first | done | rfl | (simp only [List.length_drop, List.length_take]; rfl)) ?_; (with_reducible refine (filewatch_validKind.calls a1 true _ A8.out).mono ?_); rintro e w' ⟨rfl, ⟨nd, rfl⟩⟩; refine ⟨_, rfl, ?_⟩) | ((with_reducible refine gate_callee (f := 49) rfl ?_); refine goesL_ (some 21) rfl rfl Try.func49 (by kernel_rfl) rfl #[.int .i64 a0] rfl (by (try simp only [List.map_toArray, List.map_cons, List.map_nil]); first | done | rfl | (simp only [List.length_drop, List.length_take]; rfl)) ?_; (with_reducible refine (filewatch_validKind.calls a0 true _ A10.out).mono ?_); rintro e w' ⟨rfl, ⟨nd, rfl⟩⟩; refine ⟨_, rfl, ?_⟩))
            (try simp only [Act.put, List.setIfInBounds_toArray, List.set_cons_zero, List.set_cons_succ])
            go_cut [24] (fun v24 wc => ∃ (kq : Nat) (x24_11 : Bool), v24 = .bool x24_11 ∧ Aside0 (filewatch_Merge.j1 kq a0 a1 x24_11 = some r) ∧ Aside0 (kq ≤ kj2) ∧ Drawn0 w wc)
            case first =>
              have H := HC12.out
              clear HC12
              by_cases c13 : a0 = 1
              · rw [if_pos c13] at H
                have c13b0 : (a0 == 1) = true := beq_iff_eq.mpr c13
                have c13b1 : (a0 != 1) = false := bne_eq_false_iff_eq.mpr c13
                clear c13
                (first | rw [c13b0] | (simp only [i64_w, i32_w]; rw [c13b0]) | skip)
                have H' := Aside0.mk H
                clear H
                go_wp2
                go_meet
                case rel => exact ⟨_, ((a1 == 3)), (by first | rfl | (simp; done) | (simp [*]; done) | (simp [isEmpty_bne]; done)), H', ⟨by have := HJ2.out; first | omega | exact Nat.le_refl _⟩, by repeat (first | exact Drawn0.refl _ | apply Drawn0.step)⟩
              · rw [if_neg c13] at H
                have c13b0 : (a0 == 1) = false := beq_eq_false_iff_ne.mpr c13
                have c13b1 : (a0 != 1) = true := bne_iff_ne.mpr c13
                (first | rw [c13b0] | (simp only [i64_w, i32_w]; rw [c13b0]) | skip)
                have H' := Aside0.mk H
                clear H
                go_wp2
                go_meet
                case rel => exact ⟨_, (false), (by first | rfl | (simp; done) | (simp [*]; done) | (simp [isEmpty_bne]; done)), H', ⟨by have := HJ2.out; first | omega | exact Nat.le_refl _⟩, by repeat (first | exact Drawn0.refl _ | apply Drawn0.step)⟩
            case rest =>
              clear HC12
              try clear c1
              try clear c2
              try clear p2
              try clear c4
              try clear c5
              try clear c7
              try clear c9
              try clear c11
              try clear c13
              try clear c13b0
              try clear c13b1
              try clear p2
              obtain ⟨kq, x24_11, rfl, HA, HJ11, ⟨mc11, rfl⟩⟩ := hcut
              cases kq with
              | zero => exact absurd HA.out (by simp [filewatch_Merge.j1])
              | succ kj11 =>
                have H := HA.out
                clear HA
                simp only [filewatch_Merge.j1] at H
                by_cases c14 : x24_11 = true
                · subst c14
                  have H1 : (some 0) = some r := by rw [if_pos rfl] at H; exact H
                  clear H
                  have H := H1
                  clear H1
                  obtain rfl := Option.some.inj H
                  go_wp2
                  go_ret
                  exact ⟨by first | rfl | (simp; done) | (simp [*]; done), by repeat (first | exact Drawn0.refl _ | apply Drawn0.step)⟩
                · replace c14 := Bool.eq_false_iff.mpr c14
                  subst c14
                  have H1 : (if a0 = 1 then (some 1) else (if a1 = 3 then (some 3) else (some 2))) = some r := by rw [if_neg (show ¬ (false = true) by decide)] at H; exact H
                  clear H
                  have H := H1
                  clear H1
                  by_cases c15 : a0 = 1
                  · rw [if_pos c15] at H
                    have c15b0 : (a0 == 1) = true := beq_iff_eq.mpr c15
                    have c15b1 : (a0 != 1) = false := bne_eq_false_iff_eq.mpr c15
                    clear c15
                    obtain rfl := Option.some.inj H
                    go_wp2
                    go_ret
                    exact ⟨by first | rfl | (simp; done) | (simp [*]; done), by repeat (first | exact Drawn0.refl _ | apply Drawn0.step)⟩
                  · rw [if_neg c15] at H
                    have c15b0 : (a0 == 1) = false := beq_eq_false_iff_ne.mpr c15
                    have c15b1 : (a0 != 1) = true := bne_iff_ne.mpr c15
                    by_cases c16 : a1 = 3
                    · rw [if_pos c16] at H
                      have c16b0 : (a1 == 3) = true := beq_iff_eq.mpr c16
                      have c16b1 : (a1 != 3) = false := bne_eq_false_iff_eq.mpr c16
                      clear c16
                      obtain rfl := Option.some.inj H
                      go_wp2
                      go_ret
                      exact ⟨by first | rfl | (simp; done) | (simp [*]; done), by repeat (first | exact Drawn0.refl _ | apply Drawn0.step)⟩
                    · rw [if_neg c16] at H
                      have c16b0 : (a1 == 3) = false := beq_eq_false_iff_ne.mpr c16
                      have c16b1 : (a1 != 3) = true := bne_iff_ne.mpr c16
                      obtain rfl := Option.some.inj H
                      go_wp2
                      go_ret
                      exact ⟨by first | rfl | (simp; done) | (simp [*]; done), by repeat (first | exact Drawn0.refl _ | apply Drawn0.step)⟩
          · replace c11 := Bool.eq_false_iff.mpr c11
            subst c11
            have H1 : (some a1) = some r := by rw [if_neg (show ¬ (false = true) by decide)] at H; exact H
            clear H
            have H := H1
            clear H1
            obtain rfl := Option.some.inj H
            go_wp2_with (first | ((with_reducible refine gate_callee (f := 49) rfl ?_); refine goesL_ (some 16) rfl rfl Try.func49 (by kernel_rfl) rfl #[.int .i64 a1] rfl (by (try simp only [List.map_toArray, List.map_cons, List.map_nil]); first | done | rfl | (simp only [List.length_drop, List.length_take]; rfl)) ?_; (with_reducible refine (filewatch_validKind.calls a1 true _ A8.out).mono ?_); rintro e w' ⟨rfl, ⟨nd, rfl⟩⟩; refine ⟨_, rfl, ?_⟩) | ((with_reducible refine gate_callee (f := 49) rfl ?_); refine goesL_ (some 21) rfl rfl Try.func49 (by kernel_rfl) rfl #[.int .i64 a0] rfl (by (try simp only [List.map_toArray, List.map_cons, List.map_nil]); first | done | rfl | (simp only [List.length_drop, List.length_take]; rfl)) ?_; (with_reducible refine (filewatch_validKind.calls a0 false _ A10.out).mono ?_); rintro e w' ⟨rfl, ⟨nd, rfl⟩⟩; refine ⟨_, rfl, ?_⟩))
            go_ret
            exact ⟨by first | rfl | (simp; done) | (simp [*]; done), by repeat (first | exact Drawn0.refl _ | apply Drawn0.step)⟩
        · replace c9 := Bool.eq_false_iff.mpr c9
          subst c9
          have H1 : (some a0) = some r := by rw [if_neg (show ¬ (false = true) by decide)] at H; exact H
          clear H
          have H := H1
          clear H1
          obtain rfl := Option.some.inj H
          go_wp2_with (first | ((with_reducible refine gate_callee (f := 49) rfl ?_); refine goesL_ (some 16) rfl rfl Try.func49 (by kernel_rfl) rfl #[.int .i64 a1] rfl (by (try simp only [List.map_toArray, List.map_cons, List.map_nil]); first | done | rfl | (simp only [List.length_drop, List.length_take]; rfl)) ?_; (with_reducible refine (filewatch_validKind.calls a1 false _ A8.out).mono ?_); rintro e w' ⟨rfl, ⟨nd, rfl⟩⟩; refine ⟨_, rfl, ?_⟩))
          go_ret
          exact ⟨by first | rfl | (simp; done) | (simp [*]; done), by repeat (first | exact Drawn0.refl _ | apply Drawn0.step)⟩

-- NOT PRINTED: function 51 (slices_Sorted_string)

-- NOT PRINTED: function 63 (api_QFileEvent_63)

end Go.Proofs.Ytcikmpcacakfbaa.QFilewatchBatches
