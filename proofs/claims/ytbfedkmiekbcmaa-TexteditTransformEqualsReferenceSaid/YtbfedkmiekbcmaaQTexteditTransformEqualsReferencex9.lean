-- Written by gen.py (this repo's wip/), which runs the kit's print.py with more arms. Lean checks it.
import Derived.Test.YtbfedkmiekbcmaaQTexteditTransformEqualsReferencex0
namespace Go.Proofs.Ytbfedkmiekbcmaa.QTexteditTransformEqualsReference
open Go.RowKit Go.Proofs.YtbfedkmiekbcmaaW.PrintWords Go.Proofs.YtbfedkmiekbcmaaW.PrintLast Go.Proofs.YtbfedkmiekbcmaaW.PrintMore
attribute [local go_sem] max2_int min2_int max_two min_two max_three min_three max_four min_four   -- for this text's walks alone
set_option linter.unusedVariables false
set_option linter.unusedSimpArgs false

private theorem isEmpty_bne {α : Type} [BEq α] (l : List α) : (l != []) = !l.isEmpty := by cases l <;> rfl

/-! ### glossatorref4_CanonicalEdits: function 74 -/
mutual
def glossatorref4_CanonicalEdits.l0 : Nat → Int → List (S193) → List (S137) → Int → Int → Option ((List (S137)) × Bool)
  | 0, _, _, _, _, _ => none
  | k + 1, x0, x1, x6, x7, x8 => if x8 ≤ x0 then (glossatorref4_CanonicalEdits.l1 k x0 x1 x6 x7 x8 (⟨#[]⟩ : ByteArray)) else (if (x6.length : Int) > 50 then (some (([] : List (S137)), false)) else (some (x6, true)))
def glossatorref4_CanonicalEdits.j2 : Nat → Int → List (S193) → List (S137) → Int → Int → ByteArray → Option ((List (S137)) × Bool)
  | 0, _, _, _, _, _, _ => none
  | k + 1, x0, x1, x6, x7, x8, x9 => if x7 < (x1.length : Int) then (if 0 ≤ x7 then (if ((rd_T193 x1 x7).f1) > x8 then (if x6.length < 4398046511104 then (glossatorref4_CanonicalEdits.l0 k x0 x1 (x6 ++ [(⟨x8, (rd_T193 x1 x7).f1, x9⟩ : S137)]) (wrap64 (x7 + 1)) (wrap64 (((rd_T193 x1 x7).f1) + 1))) else (none)) else (if x9.toList = ([] : List UInt8) then (glossatorref4_CanonicalEdits.l0 k x0 x1 x6 (wrap64 (x7 + 1)) (wrap64 (((rd_T193 x1 x7).f1) + 1))) else (if x6.length < 4398046511104 then (glossatorref4_CanonicalEdits.l0 k x0 x1 (x6 ++ [(⟨x8, (rd_T193 x1 x7).f1, x9⟩ : S137)]) (wrap64 (x7 + 1)) (wrap64 (((rd_T193 x1 x7).f1) + 1))) else (none)))) else (none)) else (if x0 > x8 then (if x6.length < 4398046511104 then (glossatorref4_CanonicalEdits.l0 k x0 x1 (x6 ++ [(⟨x8, x0, x9⟩ : S137)]) (wrap64 (x7 + 1)) (wrap64 (x0 + 1))) else (none)) else (if x9.toList = ([] : List UInt8) then (glossatorref4_CanonicalEdits.l0 k x0 x1 x6 (wrap64 (x7 + 1)) (wrap64 (x0 + 1))) else (if x6.length < 4398046511104 then (glossatorref4_CanonicalEdits.l0 k x0 x1 (x6 ++ [(⟨x8, x0, x9⟩ : S137)]) (wrap64 (x7 + 1)) (wrap64 (x0 + 1))) else (none))))
def glossatorref4_CanonicalEdits.l1 : Nat → Int → List (S193) → List (S137) → Int → Int → ByteArray → Option ((List (S137)) × Bool)
  | 0, _, _, _, _, _, _ => none
  | k + 1, x0, x1, x6, x7, x8, x9 => if x7 < (x1.length : Int) then (if 0 ≤ x7 then (if ((rd_T193 x1 x7).f1) < 0 then ((some (([(rd_T193 x1 x7).f0] : List Int) : List Int)).bind fun y205 => (if x9.size + (strOfNums y205).size ≤ 9223372036854775807 then (glossatorref4_CanonicalEdits.l1 k x0 x1 x6 (wrap64 (x7 + 1)) x8 (x9 ++ (strOfNums y205))) else (none))) else (glossatorref4_CanonicalEdits.j2 k x0 x1 x6 x7 x8 x9)) else (none)) else (glossatorref4_CanonicalEdits.j2 k x0 x1 x6 x7 x8 x9)
end
def glossatorref4_CanonicalEdits.f (k : Nat) (a0 : Int) (l1 : List (S193)) : Option ((List (S137)) × Bool) := glossatorref4_CanonicalEdits.l0 k a0 l1 ([] : List (S137)) 0 0
theorem glossatorref4_CanonicalEdits.mono_l : ∀ k, (∀ y0 y1 y2 y3 y4, LeO (glossatorref4_CanonicalEdits.l0 k y0 y1 y2 y3 y4) (glossatorref4_CanonicalEdits.l0 (k + 1) y0 y1 y2 y3 y4)) ∧ (∀ y0 y1 y2 y3 y4 y5, LeO (glossatorref4_CanonicalEdits.j2 k y0 y1 y2 y3 y4 y5) (glossatorref4_CanonicalEdits.j2 (k + 1) y0 y1 y2 y3 y4 y5)) ∧ (∀ y0 y1 y2 y3 y4 y5, LeO (glossatorref4_CanonicalEdits.l1 k y0 y1 y2 y3 y4 y5) (glossatorref4_CanonicalEdits.l1 (k + 1) y0 y1 y2 y3 y4 y5))
  | 0 => ⟨fun _ _ _ _ _ r h => by simp [glossatorref4_CanonicalEdits.l0] at h, fun _ _ _ _ _ _ r h => by simp [glossatorref4_CanonicalEdits.j2] at h, fun _ _ _ _ _ _ r h => by simp [glossatorref4_CanonicalEdits.l1] at h⟩
  | k + 1 => by
    obtain ⟨ih0, ih1, ih2⟩ := glossatorref4_CanonicalEdits.mono_l k
    refine ⟨?_, ?_, ?_⟩
    · intro y0 y1 y2 y3 y4
      unfold glossatorref4_CanonicalEdits.l0
      repeat' first
      | (with_reducible exact ih0 _ _ _ _ _)
      | (with_reducible exact ih1 _ _ _ _ _ _)
      | (with_reducible exact ih2 _ _ _ _ _ _)
      | (with_reducible exact LeO.refl _)
      | (with_reducible exact LeO.none _)
      | (with_reducible refine LeO.ite ?_ ?_)
      | (with_reducible refine LeO.bind ?_ (fun _ => ?_))
      | exact ih0 _ _ _ _ _
      | exact ih1 _ _ _ _ _ _
      | exact ih2 _ _ _ _ _ _
      | exact LeO.none _
      | refine LeO.ite ?_ ?_
      | refine LeO.bind ?_ (fun _ => ?_)
    · intro y0 y1 y2 y3 y4 y5
      unfold glossatorref4_CanonicalEdits.j2
      repeat' first
      | (with_reducible exact ih0 _ _ _ _ _)
      | (with_reducible exact ih1 _ _ _ _ _ _)
      | (with_reducible exact ih2 _ _ _ _ _ _)
      | (with_reducible exact LeO.refl _)
      | (with_reducible exact LeO.none _)
      | (with_reducible refine LeO.ite ?_ ?_)
      | (with_reducible refine LeO.bind ?_ (fun _ => ?_))
      | exact ih0 _ _ _ _ _
      | exact ih1 _ _ _ _ _ _
      | exact ih2 _ _ _ _ _ _
      | exact LeO.none _
      | refine LeO.ite ?_ ?_
      | refine LeO.bind ?_ (fun _ => ?_)
    · intro y0 y1 y2 y3 y4 y5
      unfold glossatorref4_CanonicalEdits.l1
      repeat' first
      | (with_reducible exact ih0 _ _ _ _ _)
      | (with_reducible exact ih1 _ _ _ _ _ _)
      | (with_reducible exact ih2 _ _ _ _ _ _)
      | (with_reducible exact LeO.refl _)
      | (with_reducible exact LeO.none _)
      | (with_reducible refine LeO.ite ?_ ?_)
      | (with_reducible refine LeO.bind ?_ (fun _ => ?_))
      | exact ih0 _ _ _ _ _
      | exact ih1 _ _ _ _ _ _
      | exact ih2 _ _ _ _ _ _
      | exact LeO.none _
      | refine LeO.ite ?_ ?_
      | refine LeO.bind ?_ (fun _ => ?_)
theorem glossatorref4_CanonicalEdits.mono : ∀ a0 a1 k, LeO (glossatorref4_CanonicalEdits.f k a0 a1) (glossatorref4_CanonicalEdits.f (k + 1) a0 a1) := by
  intro a0 a1 k
  obtain ⟨ih0, ih1, ih2⟩ := glossatorref4_CanonicalEdits.mono_l k
  unfold glossatorref4_CanonicalEdits.f
  repeat' first
      | (with_reducible exact ih0 _ _ _ _ _)
      | (with_reducible exact ih1 _ _ _ _ _ _)
      | (with_reducible exact ih2 _ _ _ _ _ _)
      | (with_reducible exact LeO.refl _)
      | (with_reducible exact LeO.none _)
      | (with_reducible refine LeO.ite ?_ ?_)
      | (with_reducible refine LeO.bind ?_ (fun _ => ?_))
      | exact ih0 _ _ _ _ _
      | exact ih1 _ _ _ _ _ _
      | exact ih2 _ _ _ _ _ _
      | exact LeO.none _
      | refine LeO.ite ?_ ?_
      | refine LeO.bind ?_ (fun _ => ?_)
set_option maxHeartbeats 8000000 in
set_option maxRecDepth 100000 in
theorem glossatorref4_CanonicalEdits.calls (k : Nat) (a0 : Int) (A1 : Option Addr) (c1 : Nat) (l1 : List (S193)) (r1 : List (S137)) (r2 : Bool) (w : World) (hr1 : Kd.C k193 w A1 l1.length l1) (hc1 : l1.length ≤ c1) (h : glossatorref4_CanonicalEdits.f k a0 l1 = some (r1, r2)) :
    Calls Try.prog 74 #[.int .i64 a0, .slice A1 l1.length c1] w fun e w' => ∃ v0_ : Value, e = .returned (.tuple #[v0_, .bool r2]) ∧ Kd.R k137 137 w' w.heap.size (fun _ => True) v0_ r1 ∧ Below w.heap.size w w' := by
  have hu137 := Try.underlying137
  have HR1 := Aside0.mk hr1
  have HC1 := Aside0.mk hc1
  clear hr1 hc1
  have HB := Aside0.mk (Below.refl w.heap.size w)
  have H : (glossatorref4_CanonicalEdits.l0 k a0 l1 ([] : List (S137)) 0 0) = some (r1, r2) := h
  clear h
  have H' := Aside0.mk H
  clear H
  go_enter Try.func74, Try.ntmps74
  go_wp2
  go_loopg [6, 7, 8] k (fun kq v6 v7 v8 w' => ∃ (x6_1 : List (S137)) (x7_1 : Int) (x8_1 : Int), v7 = .int .i64 x7_1 ∧ v8 = .int .i64 x8_1 ∧ Aside0 (glossatorref4_CanonicalEdits.l0 kq a0 l1 x6_1 x7_1 x8_1 = some (r1, r2)) ∧ Aside0 (kq ≤ k) ∧ Aside0 (Kd.R k137 137 w' w.heap.size (fun _ => True) v6 x6_1) ∧ Aside0 (Below w.heap.size w w'))
  case atStart => exact ⟨(([] : List (S137))), (0), (0), (by first | rfl | (simp; done) | (simp [*]; done) | (simp [isEmpty_bne]; done)), (by first | rfl | (simp; done) | (simp [*]; done) | (simp [isEmpty_bne]; done)), H', ⟨Nat.le_refl _⟩, ⟨by first | exact Kd.R_nil _ _ _ _ _ | exact Kd.N_nil _ _ _ _ _ | exact Kd.V_nil _ _ _ _ _ | exact Kd.Q_nil _ _ _ _ _ | exact Kd.S_nil _ _ _ _ _⟩, ⟨by repeat (first | (with_reducible first | exact HB.out | apply below_alloc | apply pw_below_drewN | apply below_drew1) | exact HB.out)⟩⟩
  case round =>
    clear H'
    try clear c1
    try clear p2
    obtain ⟨x6_1, x7_1, x8_1, rfl, rfl, HA, HK1, HO_6, HB⟩ := hrel
    cases gk with
    | zero => exact absurd HA.out (by simp [glossatorref4_CanonicalEdits.l0])
    | succ k1 =>
      have H := HA.out
      clear HA
      simp only [glossatorref4_CanonicalEdits.l0] at H
      by_cases c3 : x8_1 ≤ a0
      · rw [if_pos c3] at H
        have c3b0 : decide (x8_1 ≤ a0) = true := decide_eq_true c3
        clear c3
        have HC4 := Aside0.mk H
        clear H
        go_upto_block 2 with (fail)
        go_cut [7, 9] (fun v7 v9 wc => ∃ (kq : Nat) (x7_3 : Int) (x9_3 : ByteArray), v7 = .int .i64 x7_3 ∧ v9 = .string x9_3 ∧ Aside0 (glossatorref4_CanonicalEdits.j2 kq a0 l1 x6_1 x7_3 x8_1 x9_3 = some (r1, r2)) ∧ Aside0 (kq ≤ k1) ∧ Aside0 (Kd.R k137 137 wc w.heap.size (fun _ => True) u6 x6_1) ∧ Aside0 (Below w.heap.size w wc))
        case first =>
          have H := HC4.out
          clear HC4
          have H' := Aside0.mk H
          clear H
          go_wp2
          go_loopg [7, 9] k1 (fun kq v7 v9 w' => ∃ (x7_2 : Int) (x9_2 : ByteArray), v7 = .int .i64 x7_2 ∧ v9 = .string x9_2 ∧ Aside0 (glossatorref4_CanonicalEdits.l1 kq a0 l1 x6_1 x7_2 x8_1 x9_2 = some (r1, r2)) ∧ Aside0 (kq ≤ k1) ∧ Aside0 (Kd.R k137 137 w' w.heap.size (fun _ => True) u6 x6_1) ∧ Aside0 (Below w.heap.size w w'))
          case atStart => exact ⟨(x7_1), ((⟨#[]⟩ : ByteArray)), (by first | rfl | (simp; done) | (simp [*]; done) | (simp [isEmpty_bne]; done)), (by first | rfl | (simp; done) | (simp [*]; done) | (simp [isEmpty_bne]; done)), H', ⟨Nat.le_refl _⟩, ⟨by (with_reducible repeat (first | apply Kd.R_alloc | apply Kd.R_drewN | apply Kd.R_drew)); exact HO_6.out⟩, ⟨by repeat (first | (with_reducible first | exact HB.out | apply below_alloc | apply pw_below_drewN | apply below_drew1) | exact HB.out)⟩⟩
          case round =>
            clear H'
            try clear c1
            try clear p2
            try clear c3
            try clear c3b0
            try clear p2
            obtain ⟨x7_2, x9_2, rfl, rfl, HA, HK2, HO_6, HB⟩ := hrel
            cases gk with
            | zero => exact absurd HA.out (by simp [glossatorref4_CanonicalEdits.l1])
            | succ k2 =>
              have H := HA.out
              clear HA
              simp only [glossatorref4_CanonicalEdits.l1] at H
              by_cases c5 : x7_2 < (l1.length : Int)
              · rw [if_pos c5] at H
                have c5b0 : decide (x7_2 < (l1.length : Int)) = true := decide_eq_true c5
                clear c5
                (first | rw [c5b0] | (simp only [i64_w, i32_w]; rw [c5b0]) | skip)
                by_cases c6 : 0 ≤ x7_2
                · rw [if_pos c6] at H
                  have c6b0 : decide (0 ≤ x7_2) = true := decide_eq_true c6
                  clear c6
                  by_cases c7 : ((rd_T193 l1 x7_2).f1) < 0
                  · rw [if_pos c7] at H
                    have c7b0 : decide (((rd_T193 l1 x7_2).f1) < 0) = true := decide_eq_true c7
                    clear c7
                    obtain ⟨y205, hy205⟩ : ∃ y_ : List Int, y_ = (([(rd_T193 l1 x7_2).f0] : List Int)) := ⟨_, rfl⟩
                    replace H : (if x9_2.size + (strOfNums y205).size ≤ 9223372036854775807 then (glossatorref4_CanonicalEdits.l1 k2 a0 l1 x6_1 (wrap64 (x7_2 + 1)) x8_1 (x9_2 ++ (strOfNums y205))) else (none)) = some (r1, r2) := by first | (rw [hy205]; with_reducible exact H) | (have H2_ := (Option.bind_some _ _).symm.trans H; rw [hy205]; with_reducible exact H2_) | (have H2_ := (Option.bind_some _ _).symm.trans H; with_reducible exact H2_) | with_reducible exact H | (rw [hy205]; exact H) | exact H
                    have Ny205 := Aside0.mk hy205
                    clear hy205
                    by_cases c8 : x9_2.size + (strOfNums y205).size ≤ 9223372036854775807
                    · rw [if_pos c8] at H
                      have c8b0 := eq_true c8
                      have c8b1 : decide (x9_2.size + (strOfNums y205).size ≤ 9223372036854775807) = true := decide_eq_true c8
                      try have c8b2 : (9223372036854775807 < x9_2.size + (strOfNums y205).size) = False := eq_false (Nat.not_lt.2 c8)
                      have H' := Aside0.mk H
                      clear H
                      have p203 : 0 ≤ (x7_2 : Int) := of_decide_eq_true (by first | (with_reducible assumption) | assumption)
                      have q203 : x7_2 < (l1.length : Int) := of_decide_eq_true (by first | (with_reducible assumption) | assumption)
                      obtain ⟨ad203, e203, hx203_0, hx203_1⟩ := at_T193 HR1.out x7_2 p203 q203
                      cases e203
                      replace hx203_0 := (HB.out.cell (World.block_lt_of_cell? w _ hx203_0)).trans hx203_0
                      replace hx203_1 := (HB.out.cell (World.block_lt_of_cell? w _ hx203_1)).trans hx203_1
                      replace p203 := eq_true p203
                      replace q203 := eq_true q203
                      have p204 : 0 ≤ (x7_2 : Int) := of_decide_eq_true (by first | (with_reducible assumption) | assumption)
                      have q204 : x7_2 < (l1.length : Int) := of_decide_eq_true (by first | (with_reducible assumption) | assumption)
                      obtain ⟨ad204, e204, hx204_0, hx204_1⟩ := at_T193 HR1.out x7_2 p204 q204
                      obtain rfl : ad203 = ad204 := (by injection e204)
                      replace hx204_0 := (HB.out.cell (World.block_lt_of_cell? w _ hx204_0)).trans hx204_0
                      replace hx204_1 := (HB.out.cell (World.block_lt_of_cell? w _ hx204_1)).trans hx204_1
                      replace p204 := eq_true p204
                      replace q204 := eq_true q204
                      go_wp2_with (first | ((with_reducible refine gate_dst (N := 32) rfl ?_); refine Kd.R_lit (Kd.int .u8) _ 5 ?hg (N := 32) ?hd (xs := ([(rd_T193 l1 x7_2).f0] : List Int)) (inner := [.int .u8 ((rd_T193 l1 x7_2).f0)]) (ok := fun _ => True) (okp := fun _ => True) ?hr ?hp (fun _ hk => hk) trivial (Below.refl _ _) (Nat.le_refl _) (by simp) ?_; (case hd => rfl); (case hg => rfl); (case hr => first | (go_simp; done) | (go_simp; rfl)); (case hp => exact (Reps.one (show Kd.M (Kd.int .u8) _ _ _ ((rd_T193 l1 x7_2).f0) [.int .u8 ((rd_T193 l1 x7_2).f0)] from rfl) (Reps.none _ _))); intro v206 w9 ho10 hb hg_ hnew_; clear hg_ hnew_; (first | rw [← Ny205.out] at ho10 | (simp only [Int.reduceToNat] at ho10; rw [← Ny205.out] at ho10)); have n0_ := Aside0.mk (Kd.R_below (by (with_reducible repeat (first | apply Kd.R_alloc | apply Kd.R_drewN | apply Kd.R_drew)); exact HO_6.out) hb); have n1_ := Aside0.mk (Kd.R_lower ho10 (below_size (by repeat (first | (with_reducible first | exact HB.out | apply below_alloc | apply pw_below_drewN | apply below_drew1) | exact HB.out)))); have n2_ := Aside0.mk (below_step (by repeat (first | (with_reducible first | exact HB.out | apply below_alloc | apply pw_below_drewN | apply below_drew1) | exact HB.out)) hb); clear HO_6; clear HB; have HO_6 := n0_; have HO207 := n1_; have HB := n2_; clear n0_ n1_ n2_; clear hb ho10; have hcv11 := own_string (P := Try.prog) Try.underlying143 Try.underlying5 Try.underlying9 (Kd.own_of_R HO207.out)))
                      go_roundg k2
                      case measure => have := HK1.out; have := HK2.out; omega
                      case rel => exact ⟨(wrap64 (x7_2 + 1)), (x9_2 ++ (strOfNums y205)), (by first | rfl | (simp; done) | (simp [*]; done) | (simp [isEmpty_bne]; done)), (by first | rfl | (simp; done) | (simp [*]; done) | (simp [isEmpty_bne]; done)), H', ⟨by have := HK1.out; have := HK2.out; omega⟩, ⟨by (with_reducible repeat (first | apply Kd.R_alloc | apply Kd.R_drewN | apply Kd.R_drew)); exact HO_6.out⟩, ⟨by repeat (first | (with_reducible first | exact HB.out | apply below_alloc | apply pw_below_drewN | apply below_drew1) | exact HB.out)⟩⟩
                    · rw [if_neg c8] at H
                      exact absurd H (by simp)
                  · rw [if_neg c7] at H
                    have c7b0 : decide (((rd_T193 l1 x7_2).f1) < 0) = false := decide_eq_false c7
                    clear c7
                    have H' := Aside0.mk H
                    clear H
                    have p203 : 0 ≤ (x7_2 : Int) := of_decide_eq_true (by first | (with_reducible assumption) | assumption)
                    have q203 : x7_2 < (l1.length : Int) := of_decide_eq_true (by first | (with_reducible assumption) | assumption)
                    obtain ⟨ad203, e203, hx203_0, hx203_1⟩ := at_T193 HR1.out x7_2 p203 q203
                    cases e203
                    replace hx203_0 := (HB.out.cell (World.block_lt_of_cell? w _ hx203_0)).trans hx203_0
                    replace hx203_1 := (HB.out.cell (World.block_lt_of_cell? w _ hx203_1)).trans hx203_1
                    replace p203 := eq_true p203
                    replace q203 := eq_true q203
                    go_wp2
                    go_meet
                    case rel => exact ⟨_, (x7_2), (x9_2), (by first | rfl | (simp; done) | (simp [*]; done) | (simp [isEmpty_bne]; done)), (by first | rfl | (simp; done) | (simp [*]; done) | (simp [isEmpty_bne]; done)), H', ⟨by have := HK1.out; have := HK2.out; first | omega | exact Nat.le_refl _⟩, ⟨by (with_reducible repeat (first | apply Kd.R_alloc | apply Kd.R_drewN | apply Kd.R_drew)); exact HO_6.out⟩, ⟨by repeat (first | (with_reducible first | exact HB.out | apply below_alloc | apply pw_below_drewN | apply below_drew1) | exact HB.out)⟩⟩
                · rw [if_neg c6] at H
                  exact absurd H (by simp)
              · rw [if_neg c5] at H
                have c5b0 : decide (x7_2 < (l1.length : Int)) = false := decide_eq_false c5
                clear c5
                (first | rw [c5b0] | (simp only [i64_w, i32_w]; rw [c5b0]) | skip)
                have H' := Aside0.mk H
                clear H
                go_wp2
                go_meet
                case rel => exact ⟨_, (x7_2), (x9_2), (by first | rfl | (simp; done) | (simp [*]; done) | (simp [isEmpty_bne]; done)), (by first | rfl | (simp; done) | (simp [*]; done) | (simp [isEmpty_bne]; done)), H', ⟨by have := HK1.out; have := HK2.out; first | omega | exact Nat.le_refl _⟩, ⟨by (with_reducible repeat (first | apply Kd.R_alloc | apply Kd.R_drewN | apply Kd.R_drew)); exact HO_6.out⟩, ⟨by repeat (first | (with_reducible first | exact HB.out | apply below_alloc | apply pw_below_drewN | apply below_drew1) | exact HB.out)⟩⟩
        case rest =>
          clear HC4
          try clear c1
          try clear hcv1
          try clear p2
          try clear q2
          try clear hx2
          try clear c3
          try clear c3b0
          try clear c5
          try clear c5b0
          try clear c6
          try clear c6b0
          try clear p6
          try clear c7
          try clear c7b0
          try clear c8
          try clear c8b0
          try clear c8b1
          try clear c8b2
          try clear hcv11
          try clear hx203_0
          try clear hx203_1
          try clear hx204_0
          try clear hx204_1
          try clear p2
          try clear p203
          try clear p204
          try clear q203
          try clear q204
          obtain ⟨kq, x7_3, x9_3, rfl, rfl, HA, HJ3, HO_6, HB⟩ := hcut
          cases kq with
          | zero => exact absurd HA.out (by simp [glossatorref4_CanonicalEdits.j2])
          | succ kj3 =>
            have H := HA.out
            clear HA
            simp only [glossatorref4_CanonicalEdits.j2] at H
            by_cases c12 : x7_3 < (l1.length : Int)
            · rw [if_pos c12] at H
              have c12b0 : decide (x7_3 < (l1.length : Int)) = true := decide_eq_true c12
              clear c12
              by_cases c13 : 0 ≤ x7_3
              · rw [if_pos c13] at H
                have c13b0 : decide (0 ≤ x7_3) = true := decide_eq_true c13
                clear c13
                by_cases c14 : ((rd_T193 l1 x7_3).f1) > x8_1
                · rw [if_pos c14] at H
                  have c14b0 : decide (x8_1 < ((rd_T193 l1 x7_3).f1)) = true := decide_eq_true c14
                  clear c14
                  by_cases c15 : x6_1.length < 4398046511104
                  · rw [if_pos c15] at H
                    have LMc15 := Aside0.mk c15
                    clear c15
                    obtain ⟨y209, hy209⟩ : ∃ y_ : List (S137), y_ = (x6_1 ++ [(⟨x8_1, (rd_T193 l1 x7_3).f1, x9_3⟩ : S137)]) := ⟨_, rfl⟩
                    replace H : (glossatorref4_CanonicalEdits.l0 kj3 a0 l1 y209 (wrap64 (x7_3 + 1)) (wrap64 (((rd_T193 l1 x7_3).f1) + 1))) = some (r1, r2) := by first | (rw [hy209]; with_reducible exact H) | (have H2_ := (Option.bind_some _ _).symm.trans H; rw [hy209]; with_reducible exact H2_) | (have H2_ := (Option.bind_some _ _).symm.trans H; with_reducible exact H2_) | with_reducible exact H | (rw [hy209]; exact H) | exact H
                    have Ny209 := Aside0.mk hy209
                    clear hy209
                    have H' := Aside0.mk H
                    clear H
                    have p208 : 0 ≤ (x7_3 : Int) := of_decide_eq_true (by first | (with_reducible assumption) | assumption)
                    have q208 : x7_3 < (l1.length : Int) := of_decide_eq_true (by first | (with_reducible assumption) | assumption)
                    obtain ⟨ad208, e208, hx208_0, hx208_1⟩ := at_T193 HR1.out x7_3 p208 q208
                    cases e208
                    replace hx208_0 := (HB.out.cell (World.block_lt_of_cell? w _ hx208_0)).trans hx208_0
                    replace hx208_1 := (HB.out.cell (World.block_lt_of_cell? w _ hx208_1)).trans hx208_1
                    replace p208 := eq_true p208
                    replace q208 := eq_true q208
                    go_wp2_with (first | ((with_reducible refine gate_builtin (b := .append) (xs := #[.tmp 54, .tmp 59]) rfl ?_); at_builtin; refine Kd.R_append k137 (w0 := w) w.heap.size rfl (.tmp 54) (.tmp 59) 57 137 (.agg #[(.int .i64 0), (.int .i64 0), (.string ⟨#[]⟩)]) 32 rfl Try.underlying57 info137 rfl (by decide) (by omega) u6 x6_1 (⟨x8_1, (rd_T193 l1 x7_3).f1, x9_3⟩ : S137) [.int .i64 x8_1, .int .i64 ((rd_T193 l1 x7_3).f1), .string x9_3] (fun _ => True) (fun _ => False) rfl rfl ?aP (fun _ hk => hk.elim) ?aF ?aO ?aB ?aS ?aL ?_; (case aP => exact k137_mkM _ _ _ (⟨x8_1, (rd_T193 l1 x7_3).f1, x9_3⟩ : S137)); (case aB => exact (by repeat (first | (with_reducible first | exact HB.out | apply below_alloc | apply pw_below_drewN | apply below_drew1) | exact HB.out))); (case aF => exact (fun _ _ => trivial)); (case aO => exact (by (with_reducible repeat (first | apply Kd.R_alloc | apply Kd.R_drewN | apply Kd.R_drew)); exact HO_6.out)); (case aS => exact (below_size (by repeat (first | (with_reducible first | exact HB.out | apply below_alloc | apply pw_below_drewN | apply below_drew1) | exact HB.out)))); (case aL => have := LMc15.out; omega); intro v210 w16 ho hb hg hat; rw [← Ny209.out] at ho; have n0_ := Aside0.mk (hb); have n1_ := Aside0.mk (ho); clear HB; clear HO_6; have HB := n0_; have HO211 := n1_; clear n0_ n1_; clear ho hb hg hat))
                    go_roundg kj3
                    case measure => have := HK1.out; have := HJ3.out; omega
                    case rel => exact ⟨(y209), (wrap64 (x7_3 + 1)), (wrap64 (((rd_T193 l1 x7_3).f1) + 1)), (by first | rfl | (simp; done) | (simp [*]; done) | (simp [isEmpty_bne]; done)), (by first | rfl | (simp; done) | (simp [*]; done) | (simp [isEmpty_bne]; done)), H', ⟨by have := HK1.out; have := HJ3.out; omega⟩, ⟨by (with_reducible repeat (first | apply Kd.R_alloc | apply Kd.R_drewN | apply Kd.R_drew)); exact HO211.out⟩, ⟨by repeat (first | (with_reducible first | exact HB.out | apply below_alloc | apply pw_below_drewN | apply below_drew1) | exact HB.out)⟩⟩
                  · rw [if_neg c15] at H
                    exact absurd H (by simp)
                · rw [if_neg c14] at H
                  have c14b0 : decide (x8_1 < ((rd_T193 l1 x7_3).f1)) = false := decide_eq_false c14
                  clear c14
                  by_cases c17 : x9_3.toList = ([] : List UInt8)
                  · rw [if_pos c17] at H
                    have c17b0 : (x9_3.toList == ([] : List UInt8)) = true := beq_iff_eq.mpr c17
                    have c17b1 : (x9_3.toList != ([] : List UInt8)) = false := bne_eq_false_iff_eq.mpr c17
                    clear c17
                    have H' := Aside0.mk H
                    clear H
                    have p208 : 0 ≤ (x7_3 : Int) := of_decide_eq_true (by first | (with_reducible assumption) | assumption)
                    have q208 : x7_3 < (l1.length : Int) := of_decide_eq_true (by first | (with_reducible assumption) | assumption)
                    obtain ⟨ad208, e208, hx208_0, hx208_1⟩ := at_T193 HR1.out x7_3 p208 q208
                    cases e208
                    replace hx208_0 := (HB.out.cell (World.block_lt_of_cell? w _ hx208_0)).trans hx208_0
                    replace hx208_1 := (HB.out.cell (World.block_lt_of_cell? w _ hx208_1)).trans hx208_1
                    replace p208 := eq_true p208
                    replace q208 := eq_true q208
                    go_wp2
                    go_roundg kj3
                    case measure => have := HK1.out; have := HJ3.out; omega
                    case rel => exact ⟨(x6_1), (wrap64 (x7_3 + 1)), (wrap64 (((rd_T193 l1 x7_3).f1) + 1)), (by first | rfl | (simp; done) | (simp [*]; done) | (simp [isEmpty_bne]; done)), (by first | rfl | (simp; done) | (simp [*]; done) | (simp [isEmpty_bne]; done)), H', ⟨by have := HK1.out; have := HJ3.out; omega⟩, ⟨by (with_reducible repeat (first | apply Kd.R_alloc | apply Kd.R_drewN | apply Kd.R_drew)); exact HO_6.out⟩, ⟨by repeat (first | (with_reducible first | exact HB.out | apply below_alloc | apply pw_below_drewN | apply below_drew1) | exact HB.out)⟩⟩
                  · rw [if_neg c17] at H
                    have c17b0 : (x9_3.toList == ([] : List UInt8)) = false := beq_eq_false_iff_ne.mpr c17
                    have c17b1 : (x9_3.toList != ([] : List UInt8)) = true := bne_iff_ne.mpr c17
                    by_cases c18 : x6_1.length < 4398046511104
                    · rw [if_pos c18] at H
                      have LMc18 := Aside0.mk c18
                      clear c18
                      obtain ⟨y212, hy212⟩ : ∃ y_ : List (S137), y_ = (x6_1 ++ [(⟨x8_1, (rd_T193 l1 x7_3).f1, x9_3⟩ : S137)]) := ⟨_, rfl⟩
                      replace H : (glossatorref4_CanonicalEdits.l0 kj3 a0 l1 y212 (wrap64 (x7_3 + 1)) (wrap64 (((rd_T193 l1 x7_3).f1) + 1))) = some (r1, r2) := by first | (rw [hy212]; with_reducible exact H) | (have H2_ := (Option.bind_some _ _).symm.trans H; rw [hy212]; with_reducible exact H2_) | (have H2_ := (Option.bind_some _ _).symm.trans H; with_reducible exact H2_) | with_reducible exact H | (rw [hy212]; exact H) | exact H
                      have Ny212 := Aside0.mk hy212
                      clear hy212
                      have H' := Aside0.mk H
                      clear H
                      have p208 : 0 ≤ (x7_3 : Int) := of_decide_eq_true (by first | (with_reducible assumption) | assumption)
                      have q208 : x7_3 < (l1.length : Int) := of_decide_eq_true (by first | (with_reducible assumption) | assumption)
                      obtain ⟨ad208, e208, hx208_0, hx208_1⟩ := at_T193 HR1.out x7_3 p208 q208
                      cases e208
                      replace hx208_0 := (HB.out.cell (World.block_lt_of_cell? w _ hx208_0)).trans hx208_0
                      replace hx208_1 := (HB.out.cell (World.block_lt_of_cell? w _ hx208_1)).trans hx208_1
                      replace p208 := eq_true p208
                      replace q208 := eq_true q208
                      go_wp2_with (first | ((with_reducible refine gate_builtin (b := .append) (xs := #[.tmp 54, .tmp 59]) rfl ?_); at_builtin; refine Kd.R_append k137 (w0 := w) w.heap.size rfl (.tmp 54) (.tmp 59) 57 137 (.agg #[(.int .i64 0), (.int .i64 0), (.string ⟨#[]⟩)]) 32 rfl Try.underlying57 info137 rfl (by decide) (by omega) u6 x6_1 (⟨x8_1, (rd_T193 l1 x7_3).f1, x9_3⟩ : S137) [.int .i64 x8_1, .int .i64 ((rd_T193 l1 x7_3).f1), .string x9_3] (fun _ => True) (fun _ => False) rfl rfl ?aP (fun _ hk => hk.elim) ?aF ?aO ?aB ?aS ?aL ?_; (case aP => exact k137_mkM _ _ _ (⟨x8_1, (rd_T193 l1 x7_3).f1, x9_3⟩ : S137)); (case aB => exact (by repeat (first | (with_reducible first | exact HB.out | apply below_alloc | apply pw_below_drewN | apply below_drew1) | exact HB.out))); (case aF => exact (fun _ _ => trivial)); (case aO => exact (by (with_reducible repeat (first | apply Kd.R_alloc | apply Kd.R_drewN | apply Kd.R_drew)); exact HO_6.out)); (case aS => exact (below_size (by repeat (first | (with_reducible first | exact HB.out | apply below_alloc | apply pw_below_drewN | apply below_drew1) | exact HB.out)))); (case aL => have := LMc18.out; omega); intro v213 w19 ho hb hg hat; rw [← Ny212.out] at ho; have n0_ := Aside0.mk (hb); have n1_ := Aside0.mk (ho); clear HB; clear HO_6; have HB := n0_; have HO214 := n1_; clear n0_ n1_; clear ho hb hg hat))
                      go_roundg kj3
                      case measure => have := HK1.out; have := HJ3.out; omega
                      case rel => exact ⟨(y212), (wrap64 (x7_3 + 1)), (wrap64 (((rd_T193 l1 x7_3).f1) + 1)), (by first | rfl | (simp; done) | (simp [*]; done) | (simp [isEmpty_bne]; done)), (by first | rfl | (simp; done) | (simp [*]; done) | (simp [isEmpty_bne]; done)), H', ⟨by have := HK1.out; have := HJ3.out; omega⟩, ⟨by (with_reducible repeat (first | apply Kd.R_alloc | apply Kd.R_drewN | apply Kd.R_drew)); exact HO214.out⟩, ⟨by repeat (first | (with_reducible first | exact HB.out | apply below_alloc | apply pw_below_drewN | apply below_drew1) | exact HB.out)⟩⟩
                    · rw [if_neg c18] at H
                      exact absurd H (by simp)
              · rw [if_neg c13] at H
                exact absurd H (by simp)
            · rw [if_neg c12] at H
              have c12b0 : decide (x7_3 < (l1.length : Int)) = false := decide_eq_false c12
              clear c12
              by_cases c20 : a0 > x8_1
              · rw [if_pos c20] at H
                have c20b0 : decide (x8_1 < a0) = true := decide_eq_true c20
                clear c20
                by_cases c21 : x6_1.length < 4398046511104
                · rw [if_pos c21] at H
                  have LMc21 := Aside0.mk c21
                  clear c21
                  obtain ⟨y215, hy215⟩ : ∃ y_ : List (S137), y_ = (x6_1 ++ [(⟨x8_1, a0, x9_3⟩ : S137)]) := ⟨_, rfl⟩
                  replace H : (glossatorref4_CanonicalEdits.l0 kj3 a0 l1 y215 (wrap64 (x7_3 + 1)) (wrap64 (a0 + 1))) = some (r1, r2) := by first | (rw [hy215]; with_reducible exact H) | (have H2_ := (Option.bind_some _ _).symm.trans H; rw [hy215]; with_reducible exact H2_) | (have H2_ := (Option.bind_some _ _).symm.trans H; with_reducible exact H2_) | with_reducible exact H | (rw [hy215]; exact H) | exact H
                  have Ny215 := Aside0.mk hy215
                  clear hy215
                  have H' := Aside0.mk H
                  clear H
                  go_wp2_with (first | ((with_reducible refine gate_builtin (b := .append) (xs := #[.tmp 54, .tmp 59]) rfl ?_); at_builtin; refine Kd.R_append k137 (w0 := w) w.heap.size rfl (.tmp 54) (.tmp 59) 57 137 (.agg #[(.int .i64 0), (.int .i64 0), (.string ⟨#[]⟩)]) 32 rfl Try.underlying57 info137 rfl (by decide) (by omega) u6 x6_1 (⟨x8_1, a0, x9_3⟩ : S137) [.int .i64 x8_1, .int .i64 a0, .string x9_3] (fun _ => True) (fun _ => False) rfl rfl ?aP (fun _ hk => hk.elim) ?aF ?aO ?aB ?aS ?aL ?_; (case aP => exact k137_mkM _ _ _ (⟨x8_1, a0, x9_3⟩ : S137)); (case aB => exact (by repeat (first | (with_reducible first | exact HB.out | apply below_alloc | apply pw_below_drewN | apply below_drew1) | exact HB.out))); (case aF => exact (fun _ _ => trivial)); (case aO => exact (by (with_reducible repeat (first | apply Kd.R_alloc | apply Kd.R_drewN | apply Kd.R_drew)); exact HO_6.out)); (case aS => exact (below_size (by repeat (first | (with_reducible first | exact HB.out | apply below_alloc | apply pw_below_drewN | apply below_drew1) | exact HB.out)))); (case aL => have := LMc21.out; omega); intro v216 w22 ho hb hg hat; rw [← Ny215.out] at ho; have n0_ := Aside0.mk (hb); have n1_ := Aside0.mk (ho); clear HB; clear HO_6; have HB := n0_; have HO217 := n1_; clear n0_ n1_; clear ho hb hg hat))
                  go_roundg kj3
                  case measure => have := HK1.out; have := HJ3.out; omega
                  case rel => exact ⟨(y215), (wrap64 (x7_3 + 1)), (wrap64 (a0 + 1)), (by first | rfl | (simp; done) | (simp [*]; done) | (simp [isEmpty_bne]; done)), (by first | rfl | (simp; done) | (simp [*]; done) | (simp [isEmpty_bne]; done)), H', ⟨by have := HK1.out; have := HJ3.out; omega⟩, ⟨by (with_reducible repeat (first | apply Kd.R_alloc | apply Kd.R_drewN | apply Kd.R_drew)); exact HO217.out⟩, ⟨by repeat (first | (with_reducible first | exact HB.out | apply below_alloc | apply pw_below_drewN | apply below_drew1) | exact HB.out)⟩⟩
                · rw [if_neg c21] at H
                  exact absurd H (by simp)
              · rw [if_neg c20] at H
                have c20b0 : decide (x8_1 < a0) = false := decide_eq_false c20
                clear c20
                by_cases c23 : x9_3.toList = ([] : List UInt8)
                · rw [if_pos c23] at H
                  have c23b0 : (x9_3.toList == ([] : List UInt8)) = true := beq_iff_eq.mpr c23
                  have c23b1 : (x9_3.toList != ([] : List UInt8)) = false := bne_eq_false_iff_eq.mpr c23
                  clear c23
                  have H' := Aside0.mk H
                  clear H
                  go_wp2
                  go_roundg kj3
                  case measure => have := HK1.out; have := HJ3.out; omega
                  case rel => exact ⟨(x6_1), (wrap64 (x7_3 + 1)), (wrap64 (a0 + 1)), (by first | rfl | (simp; done) | (simp [*]; done) | (simp [isEmpty_bne]; done)), (by first | rfl | (simp; done) | (simp [*]; done) | (simp [isEmpty_bne]; done)), H', ⟨by have := HK1.out; have := HJ3.out; omega⟩, ⟨by (with_reducible repeat (first | apply Kd.R_alloc | apply Kd.R_drewN | apply Kd.R_drew)); exact HO_6.out⟩, ⟨by repeat (first | (with_reducible first | exact HB.out | apply below_alloc | apply pw_below_drewN | apply below_drew1) | exact HB.out)⟩⟩
                · rw [if_neg c23] at H
                  have c23b0 : (x9_3.toList == ([] : List UInt8)) = false := beq_eq_false_iff_ne.mpr c23
                  have c23b1 : (x9_3.toList != ([] : List UInt8)) = true := bne_iff_ne.mpr c23
                  by_cases c24 : x6_1.length < 4398046511104
                  · rw [if_pos c24] at H
                    have LMc24 := Aside0.mk c24
                    clear c24
                    obtain ⟨y218, hy218⟩ : ∃ y_ : List (S137), y_ = (x6_1 ++ [(⟨x8_1, a0, x9_3⟩ : S137)]) := ⟨_, rfl⟩
                    replace H : (glossatorref4_CanonicalEdits.l0 kj3 a0 l1 y218 (wrap64 (x7_3 + 1)) (wrap64 (a0 + 1))) = some (r1, r2) := by first | (rw [hy218]; with_reducible exact H) | (have H2_ := (Option.bind_some _ _).symm.trans H; rw [hy218]; with_reducible exact H2_) | (have H2_ := (Option.bind_some _ _).symm.trans H; with_reducible exact H2_) | with_reducible exact H | (rw [hy218]; exact H) | exact H
                    have Ny218 := Aside0.mk hy218
                    clear hy218
                    have H' := Aside0.mk H
                    clear H
                    go_wp2_with (first | ((with_reducible refine gate_builtin (b := .append) (xs := #[.tmp 54, .tmp 59]) rfl ?_); at_builtin; refine Kd.R_append k137 (w0 := w) w.heap.size rfl (.tmp 54) (.tmp 59) 57 137 (.agg #[(.int .i64 0), (.int .i64 0), (.string ⟨#[]⟩)]) 32 rfl Try.underlying57 info137 rfl (by decide) (by omega) u6 x6_1 (⟨x8_1, a0, x9_3⟩ : S137) [.int .i64 x8_1, .int .i64 a0, .string x9_3] (fun _ => True) (fun _ => False) rfl rfl ?aP (fun _ hk => hk.elim) ?aF ?aO ?aB ?aS ?aL ?_; (case aP => exact k137_mkM _ _ _ (⟨x8_1, a0, x9_3⟩ : S137)); (case aB => exact (by repeat (first | (with_reducible first | exact HB.out | apply below_alloc | apply pw_below_drewN | apply below_drew1) | exact HB.out))); (case aF => exact (fun _ _ => trivial)); (case aO => exact (by (with_reducible repeat (first | apply Kd.R_alloc | apply Kd.R_drewN | apply Kd.R_drew)); exact HO_6.out)); (case aS => exact (below_size (by repeat (first | (with_reducible first | exact HB.out | apply below_alloc | apply pw_below_drewN | apply below_drew1) | exact HB.out)))); (case aL => have := LMc24.out; omega); intro v219 w25 ho hb hg hat; rw [← Ny218.out] at ho; have n0_ := Aside0.mk (hb); have n1_ := Aside0.mk (ho); clear HB; clear HO_6; have HB := n0_; have HO220 := n1_; clear n0_ n1_; clear ho hb hg hat))
                    go_roundg kj3
                    case measure => have := HK1.out; have := HJ3.out; omega
                    case rel => exact ⟨(y218), (wrap64 (x7_3 + 1)), (wrap64 (a0 + 1)), (by first | rfl | (simp; done) | (simp [*]; done) | (simp [isEmpty_bne]; done)), (by first | rfl | (simp; done) | (simp [*]; done) | (simp [isEmpty_bne]; done)), H', ⟨by have := HK1.out; have := HJ3.out; omega⟩, ⟨by (with_reducible repeat (first | apply Kd.R_alloc | apply Kd.R_drewN | apply Kd.R_drew)); exact HO220.out⟩, ⟨by repeat (first | (with_reducible first | exact HB.out | apply below_alloc | apply pw_below_drewN | apply below_drew1) | exact HB.out)⟩⟩
                  · rw [if_neg c24] at H
                    exact absurd H (by simp)
      · rw [if_neg c3] at H
        have c3b0 : decide (x8_1 ≤ a0) = false := decide_eq_false c3
        clear c3
        by_cases c26 : (x6_1.length : Int) > 50
        · rw [if_pos c26] at H
          have c26b0 : decide (50 < (x6_1.length : Int)) = true := decide_eq_true c26
          have c26b1 : decide (50 < x6_1.length) = true := decide_eq_true (by omega)
          clear c26
          simp only [Option.some.injEq, Prod.mk.injEq] at H
          obtain ⟨rfl, rfl⟩ := H
          obtain ⟨Ao27, co27, eo27⟩ := Kd.R_slice HO_6.out
          subst eo27
          go_wp2
          go_ret2
          exact ⟨_, by first | rfl | (simp [errW_none, errW_some] <;> rfl) | (simp [*, errW_none, errW_some] <;> rfl), by first | exact Kd.R_nil _ _ _ _ _ | exact Kd.N_nil _ _ _ _ _ | exact Kd.V_nil _ _ _ _ _ | exact Kd.Q_nil _ _ _ _ _ | exact Kd.S_nil _ _ _ _ _, by repeat (first | (with_reducible first | exact HB.out | apply below_alloc | apply pw_below_drewN | apply below_drew1) | exact HB.out)⟩
        · rw [if_neg c26] at H
          have c26b0 : decide (50 < (x6_1.length : Int)) = false := decide_eq_false c26
          have c26b1 : decide (50 < x6_1.length) = false := decide_eq_false (by omega)
          clear c26
          simp only [Option.some.injEq, Prod.mk.injEq] at H
          obtain ⟨rfl, rfl⟩ := H
          obtain ⟨Ao28, co28, eo28⟩ := Kd.R_slice HO_6.out
          subst eo28
          go_wp2
          go_ret2
          exact ⟨_, by first | rfl | (simp [errW_none, errW_some] <;> rfl) | (simp [*, errW_none, errW_some] <;> rfl), by (with_reducible repeat (first | apply Kd.R_alloc | apply Kd.R_drewN | apply Kd.R_drew)); exact HO_6.out, by repeat (first | (with_reducible first | exact HB.out | apply below_alloc | apply pw_below_drewN | apply below_drew1) | exact HB.out)⟩

end Go.Proofs.Ytbfedkmiekbcmaa.QTexteditTransformEqualsReference
