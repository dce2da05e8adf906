-- Written by gen.py (this repo's wip/), which runs the kit's print.py with more arms. Lean checks it.
import Derived.Test.YtpkdgdhfhgelbaaQFuzzyScoreEqualsReferencex0
import Derived.Test.YtpkdgdhfhgelbaaQFuzzyScoreEqualsReferencex5
import Derived.Test.YtpkdgdhfhgelbaaQFuzzyScoreEqualsReferencex6
namespace Go.Proofs.Ytpkdgdhfhgelbaa.QFuzzyScoreEqualsReference
open Go.RowKit Go.Proofs.YtpkdgdhfhgelbaaW.PrintWords Go.Proofs.YtpkdgdhfhgelbaaW.PrintLast Go.Proofs.YtpkdgdhfhgelbaaW.PrintMore
attribute [local go_sem] max2_int min2_int max_two min_two max_three min_three max_four min_four   -- for this text's walks alone
set_option linter.unusedVariables false
set_option linter.unusedSimpArgs false

private theorem isEmpty_bne {α : Type} [BEq α] (l : List α) : (l != []) = !l.isEmpty := by cases l <;> rfl

/-! ### glossatorref4_FuzzyScore: function 7 -/
mutual
def glossatorref4_FuzzyScore.j0 : Nat → ByteArray → ByteArray → Bool → Option (Int × List Int × Bool)
  | 0, _, _, _ => none
  | k + 1, x0, x1, x19 => if x19 = true then (some (0, ([] : List Int), false)) else ((glossatorref4_FuzzyAlignments.f k x0 x1 ([] : List Int)).bind fun t179 => (glossatorref4_FuzzyScore.l0 k x0 x1 t179 (-1) ([] : List Int) 0))
def glossatorref4_FuzzyScore.l0 : Nat → ByteArray → ByteArray → List (List Int) → Int → List Int → Int → Option (Int × List Int × Bool)
  | 0, _, _, _, _, _, _ => none
  | k + 1, x0, x1, x7, x8, x9, x10 => if x10 < (x7.length : Int) then (if 0 ≤ x10 then ((glossatorref4_FuzzyAlignmentScore.f k x0 x1 (rd_L2 x7 x10)).bind fun t183 => (if t183 > x8 then (glossatorref4_FuzzyScore.l0 k x0 x1 x7 t183 (rd_L2 x7 x10) (wrap64 (x10 + 1))) else (glossatorref4_FuzzyScore.l0 k x0 x1 x7 x8 x9 (wrap64 (x10 + 1))))) else (none)) else (if x8 < 0 then (some (0, ([] : List Int), false)) else (some (x8, x9, true)))
end
def glossatorref4_FuzzyScore.f (k : Nat) (a0 : ByteArray) (a1 : ByteArray) : Option (Int × List Int × Bool) := if (a0.size : Int) > 30 then (glossatorref4_FuzzyScore.j0 k a0 a1 true) else (glossatorref4_FuzzyScore.j0 k a0 a1 (decide ((a1.size : Int) > 30)))
theorem glossatorref4_FuzzyScore.mono_l : ∀ k, (∀ y0 y1 y2, LeO (glossatorref4_FuzzyScore.j0 k y0 y1 y2) (glossatorref4_FuzzyScore.j0 (k + 1) y0 y1 y2)) ∧ (∀ y0 y1 y2 y3 y4 y5, LeO (glossatorref4_FuzzyScore.l0 k y0 y1 y2 y3 y4 y5) (glossatorref4_FuzzyScore.l0 (k + 1) y0 y1 y2 y3 y4 y5))
  | 0 => ⟨fun _ _ _ r h => by simp [glossatorref4_FuzzyScore.j0] at h, fun _ _ _ _ _ _ r h => by simp [glossatorref4_FuzzyScore.l0] at h⟩
  | k + 1 => by
    obtain ⟨ih0, ih1⟩ := glossatorref4_FuzzyScore.mono_l k
    refine ⟨?_, ?_⟩
    · intro y0 y1 y2
      unfold glossatorref4_FuzzyScore.j0
      repeat' first
      | (with_reducible exact ih0 _ _ _)
      | (with_reducible exact ih1 _ _ _ _ _ _)
      | (with_reducible exact glossatorref4_FuzzyAlignmentScore.mono _ _ _ _)
      | (with_reducible exact glossatorref4_FuzzyAlignments.mono _ _ _ _)
      | (with_reducible exact LeO.refl _)
      | (with_reducible exact LeO.none _)
      | (with_reducible refine LeO.ite ?_ ?_)
      | (with_reducible refine LeO.bind ?_ (fun _ => ?_))
      | exact ih0 _ _ _
      | exact ih1 _ _ _ _ _ _
      | exact glossatorref4_FuzzyAlignmentScore.mono _ _ _ _
      | exact glossatorref4_FuzzyAlignments.mono _ _ _ _
      | exact LeO.none _
      | refine LeO.ite ?_ ?_
      | refine LeO.bind ?_ (fun _ => ?_)
    · intro y0 y1 y2 y3 y4 y5
      unfold glossatorref4_FuzzyScore.l0
      repeat' first
      | (with_reducible exact ih0 _ _ _)
      | (with_reducible exact ih1 _ _ _ _ _ _)
      | (with_reducible exact glossatorref4_FuzzyAlignmentScore.mono _ _ _ _)
      | (with_reducible exact glossatorref4_FuzzyAlignments.mono _ _ _ _)
      | (with_reducible exact LeO.refl _)
      | (with_reducible exact LeO.none _)
      | (with_reducible refine LeO.ite ?_ ?_)
      | (with_reducible refine LeO.bind ?_ (fun _ => ?_))
      | exact ih0 _ _ _
      | exact ih1 _ _ _ _ _ _
      | exact glossatorref4_FuzzyAlignmentScore.mono _ _ _ _
      | exact glossatorref4_FuzzyAlignments.mono _ _ _ _
      | exact LeO.none _
      | refine LeO.ite ?_ ?_
      | refine LeO.bind ?_ (fun _ => ?_)
theorem glossatorref4_FuzzyScore.mono : ∀ a0 a1 k, LeO (glossatorref4_FuzzyScore.f k a0 a1) (glossatorref4_FuzzyScore.f (k + 1) a0 a1) := by
  intro a0 a1 k
  obtain ⟨ih0, ih1⟩ := glossatorref4_FuzzyScore.mono_l k
  unfold glossatorref4_FuzzyScore.f
  repeat' first
      | (with_reducible exact ih0 _ _ _)
      | (with_reducible exact ih1 _ _ _ _ _ _)
      | (with_reducible exact glossatorref4_FuzzyAlignmentScore.mono _ _ _ _)
      | (with_reducible exact glossatorref4_FuzzyAlignments.mono _ _ _ _)
      | (with_reducible exact LeO.refl _)
      | (with_reducible exact LeO.none _)
      | (with_reducible refine LeO.ite ?_ ?_)
      | (with_reducible refine LeO.bind ?_ (fun _ => ?_))
      | exact ih0 _ _ _
      | exact ih1 _ _ _ _ _ _
      | exact glossatorref4_FuzzyAlignmentScore.mono _ _ _ _
      | exact glossatorref4_FuzzyAlignments.mono _ _ _ _
      | exact LeO.none _
      | refine LeO.ite ?_ ?_
      | refine LeO.bind ?_ (fun _ => ?_)
set_option maxHeartbeats 8000000 in
set_option maxRecDepth 100000 in
theorem glossatorref4_FuzzyScore.calls (k : Nat) (a0 : ByteArray) (a1 : ByteArray) (r1 : Int) (r2 : List Int) (r3 : Bool) (w : World) (h : glossatorref4_FuzzyScore.f k a0 a1 = some (r1, r2, r3)) :
    Calls Try.prog 7 #[.string a0, .string a1] w fun e w' => ∃ v1_ : Value, e = .returned (.tuple #[.int .i64 r1, v1_, .bool r3]) ∧ Kd.V (Kd.int .i64) 3 w' w.heap.size (fun k_ => (w.heap.size ≤ k_)) v1_ r2 ∧ Below w.heap.size w w' := by
  have HB := Aside0.mk (Below.refl w.heap.size w)
  have H : (if (a0.size : Int) > 30 then (glossatorref4_FuzzyScore.j0 k a0 a1 true) else (glossatorref4_FuzzyScore.j0 k a0 a1 (decide ((a1.size : Int) > 30)))) = some (r1, r2, r3) := h
  clear h
  have HC3 := Aside0.mk H
  clear H
  go_enter Try.func7, Try.ntmps7
  go_upto_region 1 with (fail)
  repeat (go_quiet (fail); go_upto_region 1 with (fail))
  go_cut [19] (fun v19 wc => ∃ (kq : Nat) (x19_2 : Bool), v19 = .bool x19_2 ∧ Aside0 (glossatorref4_FuzzyScore.j0 kq a0 a1 x19_2 = some (r1, r2, r3)) ∧ Aside0 (kq ≤ k) ∧ Aside0 (Below w.heap.size w wc))
  case first =>
    have H := HC3.out
    clear HC3
    by_cases c4 : (a0.size : Int) > 30
    · rw [if_pos c4] at H
      have c4b0 : decide (30 < (a0.size : Int)) = true := decide_eq_true c4
      have c4b1 : decide (30 < a0.size) = true := decide_eq_true (by omega)
      clear c4
      (first | rw [c4b1] | rw [c4b0] | (simp only [i64_w, i32_w]; rw [c4b0]) | skip)
      have H' := Aside0.mk H
      clear H
      go_wp2
      repeat (go_quiet (fail); try go_wp2)
      go_meet
      case rel => exact ⟨_, (true), (by first | rfl | (simp; done) | (simp [*]; done) | (simp [isEmpty_bne]; done)), H', ⟨by first | omega | exact Nat.le_refl _⟩, ⟨by repeat (first | (with_reducible first | exact HB.out | apply below_alloc | apply pw_below_drewN | apply below_drew1) | exact HB.out)⟩⟩
    · rw [if_neg c4] at H
      have c4b0 : decide (30 < (a0.size : Int)) = false := decide_eq_false c4
      have c4b1 : decide (30 < a0.size) = false := decide_eq_false (by omega)
      clear c4
      (first | rw [c4b1] | rw [c4b0] | (simp only [i64_w, i32_w]; rw [c4b0]) | skip)
      have H' := Aside0.mk H
      clear H
      go_wp2
      repeat (go_quiet (fail); try go_wp2)
      go_meet
      case rel => exact ⟨_, (decide ((a1.size : Int) > 30)), (by first | rfl | (simp; done) | (simp [*]; done) | (simp [isEmpty_bne]; done)), H', ⟨by first | omega | exact Nat.le_refl _⟩, ⟨by repeat (first | (with_reducible first | exact HB.out | apply below_alloc | apply pw_below_drewN | apply below_drew1) | exact HB.out)⟩⟩
  case rest =>
    clear HC3
    try clear p2
    try clear c4
    try clear c4b0
    try clear c4b1
    obtain ⟨kq, x19_2, rfl, HA, HJ2, HB⟩ := hcut
    cases kq with
    | zero => exact absurd HA.out (by simp [glossatorref4_FuzzyScore.j0])
    | succ kj2 =>
      have H := HA.out
      clear HA
      simp only [glossatorref4_FuzzyScore.j0] at H
      by_cases c5 : x19_2 = true
      · subst c5
        have H1 : (some (0, ([] : List Int), false)) = some (r1, r2, r3) := by rw [if_pos rfl] at H; exact H
        clear H
        have H := H1
        clear H1
        simp only [Option.some.injEq, Prod.mk.injEq] at H
        obtain ⟨rfl, rfl, rfl⟩ := H
        go_wp2
        repeat (go_quiet (fail); try go_wp2)
        go_ret3
        exact ⟨_, by first | rfl | (simp [errW_none, errW_some] <;> rfl) | (simp [*, errW_none, errW_some] <;> rfl), (by first | exact Kd.V_nil _ _ _ _ _ | exact Kd.R_V (by first | exact Kd.R_nil _ _ _ _ _ | exact Kd.N_nil _ _ _ _ _ | exact Kd.V_nil _ _ _ _ _ | exact Kd.Q_nil _ _ _ _ _ | exact Kd.S_nil _ _ _ _ _)), by repeat (first | (with_reducible first | exact HB.out | apply below_alloc | apply pw_below_drewN | apply below_drew1) | exact HB.out)⟩
      · replace c5 := Bool.eq_false_iff.mpr c5
        subst c5
        have H1 : ((glossatorref4_FuzzyAlignments.f kj2 a0 a1 ([] : List Int)).bind fun t179 => (glossatorref4_FuzzyScore.l0 kj2 a0 a1 t179 (-1) ([] : List Int) 0)) = some (r1, r2, r3) := by rw [if_neg (show ¬ (false = true) by decide)] at H; exact H
        clear H
        have H := H1
        clear H1
        replace H := Option.bind_eq_some_iff.mp H
        obtain ⟨t179, A60, H⟩ := H
        replace H : (glossatorref4_FuzzyScore.l0 kj2 a0 a1 t179 (-1) ([] : List Int) 0) = some (r1, r2, r3) := H
        have A6 := Aside0.mk A60
        clear A60
        have H' := Aside0.mk H
        clear H
        go_wp2_with (first | (go_at_call 13; (refine (glossatorref4_FuzzyAlignments.calls kj2 a0 a1 _ _ ([] : List Int) t179 _ ?side1 ?side2 A6.out).mono ?_); (case side1 => exact Kd.C_nil _ _); (case side2 => exact Nat.le_refl _); rintro e w7 ⟨v180, rfl, ho0, hb⟩; have n0_ := Aside0.mk (Kd.N_lower (Kd.N_mono (ok' := fun k_ => (w.heap.size ≤ k_)) ho0 (fun k_ hk_ => (Nat.le_trans (below_size (by repeat (first | (with_reducible first | exact HB.out | apply below_alloc | apply pw_below_drewN | apply below_drew1) | exact HB.out))) hk_))) (below_size (by repeat (first | (with_reducible first | exact HB.out | apply below_alloc | apply pw_below_drewN | apply below_drew1) | exact HB.out)))); have n1_ := Aside0.mk (below_step (by repeat (first | (with_reducible first | exact HB.out | apply below_alloc | apply pw_below_drewN | apply below_drew1) | exact HB.out)) hb); clear HB; have HO181 := n0_; have HB := n1_; clear n0_ n1_; (try clear hb); (try clear hb2); (try clear hk); (try clear hi); (try clear ho0)))
        repeat (go_quiet (first | (go_at_call 13; (refine (glossatorref4_FuzzyAlignments.calls kj2 a0 a1 _ _ ([] : List Int) t179 _ ?side1 ?side2 A6.out).mono ?_); (case side1 => exact Kd.C_nil _ _); (case side2 => exact Nat.le_refl _); rintro e w7 ⟨v180, rfl, ho0, hb⟩; have n0_ := Aside0.mk (Kd.N_lower (Kd.N_mono (ok' := fun k_ => (w.heap.size ≤ k_)) ho0 (fun k_ hk_ => (Nat.le_trans (below_size (by repeat (first | (with_reducible first | exact HB.out | apply below_alloc | apply pw_below_drewN | apply below_drew1) | exact HB.out))) hk_))) (below_size (by repeat (first | (with_reducible first | exact HB.out | apply below_alloc | apply pw_below_drewN | apply below_drew1) | exact HB.out)))); have n1_ := Aside0.mk (below_step (by repeat (first | (with_reducible first | exact HB.out | apply below_alloc | apply pw_below_drewN | apply below_drew1) | exact HB.out)) hb); clear HB; have HO181 := n0_; have HB := n1_; clear n0_ n1_; (try clear hb); (try clear hb2); (try clear hk); (try clear hi); (try clear ho0))); try go_wp2_with (first | (go_at_call 13; (refine (glossatorref4_FuzzyAlignments.calls kj2 a0 a1 _ _ ([] : List Int) t179 _ ?side1 ?side2 A6.out).mono ?_); (case side1 => exact Kd.C_nil _ _); (case side2 => exact Nat.le_refl _); rintro e w7 ⟨v180, rfl, ho0, hb⟩; have n0_ := Aside0.mk (Kd.N_lower (Kd.N_mono (ok' := fun k_ => (w.heap.size ≤ k_)) ho0 (fun k_ hk_ => (Nat.le_trans (below_size (by repeat (first | (with_reducible first | exact HB.out | apply below_alloc | apply pw_below_drewN | apply below_drew1) | exact HB.out))) hk_))) (below_size (by repeat (first | (with_reducible first | exact HB.out | apply below_alloc | apply pw_below_drewN | apply below_drew1) | exact HB.out)))); have n1_ := Aside0.mk (below_step (by repeat (first | (with_reducible first | exact HB.out | apply below_alloc | apply pw_below_drewN | apply below_drew1) | exact HB.out)) hb); clear HB; have HO181 := n0_; have HB := n1_; clear n0_ n1_; (try clear hb); (try clear hb2); (try clear hk); (try clear hi); (try clear ho0))))
        go_loopg [8, 9, 10] kj2 (fun kq v8 v9 v10 w' => ∃ (x8_2 : Int) (x9_2 : List Int) (x10_2 : Int), v8 = .int .i64 x8_2 ∧ v10 = .int .i64 x10_2 ∧ Aside0 (glossatorref4_FuzzyScore.l0 kq a0 a1 t179 x8_2 x9_2 x10_2 = some (r1, r2, r3)) ∧ Aside0 (kq ≤ kj2) ∧ Aside0 (Kd.N (Kd.slice 3 (Kd.int .i64)) 23 w' w.heap.size (fun k_ => (w.heap.size ≤ k_)) v180 t179) ∧ Aside0 (Kd.V (Kd.int .i64) 3 w' w.heap.size (fun k_ => (w.heap.size ≤ k_) ∧ some k_ ≠ (v180 : Value).ownBlock) v9 x9_2) ∧ Aside0 (Below w.heap.size w w'))
        case atStart => exact ⟨((-1)), (([] : List Int)), (0), (by first | rfl | (simp; done) | (simp [*]; done) | (simp [isEmpty_bne]; done)), (by first | rfl | (simp; done) | (simp [*]; done) | (simp [isEmpty_bne]; done)), H', ⟨Nat.le_refl _⟩, ⟨by (with_reducible repeat (first | apply Kd.N_alloc | apply Kd.N_drewN | apply Kd.N_drew)); exact HO181.out⟩, ⟨(by first | exact Kd.V_nil _ _ _ _ _ | exact Kd.R_V (by first | exact Kd.R_nil _ _ _ _ _ | exact Kd.N_nil _ _ _ _ _ | exact Kd.V_nil _ _ _ _ _ | exact Kd.Q_nil _ _ _ _ _ | exact Kd.S_nil _ _ _ _ _))⟩, ⟨by repeat (first | (with_reducible first | exact HB.out | apply below_alloc | apply pw_below_drewN | apply below_drew1) | exact HB.out)⟩⟩
        case round =>
          clear H'
          try clear p2
          try clear c4
          try clear c4b0
          try clear c4b1
          try clear c5
          try clear c7
          try clear p2
          obtain ⟨x8_2, x9_2, x10_2, rfl, rfl, HA, HK2, HO_7, HO_9, HB⟩ := hrel
          cases gk with
          | zero => exact absurd HA.out (by simp [glossatorref4_FuzzyScore.l0])
          | succ k2 =>
            have H := HA.out
            clear HA
            simp only [glossatorref4_FuzzyScore.l0] at H
            by_cases c8 : x10_2 < (t179.length : Int)
            · rw [if_pos c8] at H
              have c8b0 : decide (x10_2 < (t179.length : Int)) = true := decide_eq_true c8
              clear c8
              by_cases c9 : 0 ≤ x10_2
              · rw [if_pos c9] at H
                have c9b0 : decide (0 ≤ x10_2) = true := decide_eq_true c9
                clear c9
                replace H := Option.bind_eq_some_iff.mp H
                obtain ⟨t183, A100, H⟩ := H
                replace H : (if t183 > x8_2 then (glossatorref4_FuzzyScore.l0 k2 a0 a1 t179 t183 (rd_L2 t179 x10_2) (wrap64 (x10_2 + 1))) else (glossatorref4_FuzzyScore.l0 k2 a0 a1 t179 x8_2 x9_2 (wrap64 (x10_2 + 1)))) = some (r1, r2, r3) := H
                have A10 := Aside0.mk A100
                clear A100
                by_cases c11 : t183 > x8_2
                · rw [if_pos c11] at H
                  have c11b0 : decide (x8_2 < t183) = true := decide_eq_true c11
                  clear c11
                  have H' := Aside0.mk H
                  clear H
                  obtain ⟨Ao12, co12, eo12⟩ := Kd.N_slice HO_7.out
                  subst eo12
                  have p182 : 0 ≤ (x10_2 : Int) := of_decide_eq_true (by first | (with_reducible assumption) | assumption)
                  have q182 : x10_2 < (t179.length : Int) := of_decide_eq_true (by first | (with_reducible assumption) | assumption)
                  obtain ⟨ad182, A182_0, c182_0, e182, hx182_0, hl182_0, hi182_0⟩ := at_L2 (Kd.N_reads' HO_7.out).2.2 x10_2 p182 q182
                  cases e182
                  obtain ⟨ce182, hce182, hMe182, hcc182⟩ := Kd.N_get HO_7.out [] x10_2 p182 (by first | exact q182 | exact of_decide_eq_true (by first | (with_reducible assumption) | assumption) | (have e_ := (Kd.N_reads' HO_7.out).1; omega))
                  obtain ⟨ua182_0, uc182_0, rfl, ul182_0, ge182_0⟩ := Kd.FK_slice_open hMe182
                  have hv182_0 := hcc182 0 _ rfl
                  rw [Nat.add_zero, show ((Kd.slice 3 (Kd.int .i64))).sz = 1 from rfl, Nat.mul_one] at hv182_0
                  replace hv182_0 := Option.some.inj (hv182_0.symm.trans hx182_0)
                  injection hv182_0 with hva_ hvn_ hvc_
                  rw [hva_] at ge182_0
                  rw [hvc_] at ul182_0
                  have HL182_0 := Aside0.mk (show Kd.V (Kd.int .i64) 3 _ w.heap.size _ _ (rd_L2 t179 x10_2) from Kd.V_mk ul182_0 ge182_0)
                  clear hva_ hvn_ hvc_ ge182_0 ul182_0
                  clear hcc182 hce182
                  have HR182_0 := Aside0.mk hi182_0
                  have HC182_0 := Aside0.mk hl182_0
                  clear hi182_0 hl182_0
                  replace p182 := eq_true p182
                  replace q182 := eq_true q182
                  go_wp2_with (first | (go_at_call 14; (with_reducible refine (glossatorref4_FuzzyAlignmentScore.calls k2 a0 a1 _ _ (rd_L2 t179 x10_2) t183 _ ?side1 ?side2 A10.out).mono ?_); (case side1 => repeat (first | exact (by repeat (first | (with_reducible exact HR182_0.out) | (with_reducible refine Kd.C_alloc ?_ _) | (with_reducible refine Kd.C_drewN ?_ _) | (with_reducible refine Kd.C_drew ?_) | exact HR182_0.out)) | (with_reducible refine Kd.C_alloc ?_ _) | (with_reducible refine Kd.C_drewN ?_ _) | (with_reducible refine Kd.C_drew ?_))); (case side2 => exact HC182_0.out); rintro e w' ⟨rfl, ⟨nd, rfl⟩⟩; (try first | exact ⟨rfl, _, World.drewN_drewN _ _ _⟩ | exact ⟨rfl, _, Eq.trans (World.drewN_drewN _ _ _) (congrArg (World.drewN _) (Nat.add_assoc _ _ _))⟩); have p184 : 0 ≤ (x10_2 : Int) := of_decide_eq_true (by first | (with_reducible assumption) | assumption); have q184 : x10_2 < (t179.length : Int) := of_decide_eq_true (by first | (with_reducible assumption) | assumption); obtain ⟨ad184, A184_0, c184_0, e184, hx184_0, hl184_0, hi184_0⟩ := at_L2 (Kd.N_reads' HO_7.out).2.2 x10_2 p184 q184; obtain rfl : ad182 = ad184 := (by injection e184); obtain ⟨ce184, hce184, hMe184, hcc184⟩ := Kd.N_get HO_7.out [] x10_2 p184 (by first | exact q184 | exact of_decide_eq_true (by first | (with_reducible assumption) | assumption) | (have e_ := (Kd.N_reads' HO_7.out).1; omega)); obtain ⟨ua184_0, uc184_0, rfl, ul184_0, ge184_0⟩ := Kd.FK_slice_open hMe184; have hv184_0 := hcc184 0 _ rfl; rw [Nat.add_zero, show ((Kd.slice 3 (Kd.int .i64))).sz = 1 from rfl, Nat.mul_one] at hv184_0; replace hv184_0 := Option.some.inj (hv184_0.symm.trans hx184_0); injection hv184_0 with hva_ hvn_ hvc_; rw [hva_] at ge184_0; rw [hvc_] at ul184_0; have HL184_0 := Aside0.mk (show Kd.V (Kd.int .i64) 3 _ w.heap.size _ _ (rd_L2 t179 x10_2) from Kd.V_mk ul184_0 ge184_0); clear hva_ hvn_ hvc_ ge184_0 ul184_0; clear hcc184 hce184; have HR184_0 := Aside0.mk hi184_0; have HC184_0 := Aside0.mk hl184_0; clear hi184_0 hl184_0; replace p184 := eq_true p184; replace q184 := eq_true q184; have ea_ := Option.some.inj (hx182_0.symm.trans hx184_0); injection ea_ with ea_ en_ ec_; subst ea_; subst ec_; clear en_))
                  repeat (go_quiet (first | (go_at_call 14; (with_reducible refine (glossatorref4_FuzzyAlignmentScore.calls k2 a0 a1 _ _ (rd_L2 t179 x10_2) t183 _ ?side1 ?side2 A10.out).mono ?_); (case side1 => repeat (first | exact (by repeat (first | (with_reducible exact HR182_0.out) | (with_reducible refine Kd.C_alloc ?_ _) | (with_reducible refine Kd.C_drewN ?_ _) | (with_reducible refine Kd.C_drew ?_) | exact HR182_0.out)) | (with_reducible refine Kd.C_alloc ?_ _) | (with_reducible refine Kd.C_drewN ?_ _) | (with_reducible refine Kd.C_drew ?_))); (case side2 => exact HC182_0.out); rintro e w' ⟨rfl, ⟨nd, rfl⟩⟩; (try first | exact ⟨rfl, _, World.drewN_drewN _ _ _⟩ | exact ⟨rfl, _, Eq.trans (World.drewN_drewN _ _ _) (congrArg (World.drewN _) (Nat.add_assoc _ _ _))⟩); have p184 : 0 ≤ (x10_2 : Int) := of_decide_eq_true (by first | (with_reducible assumption) | assumption); have q184 : x10_2 < (t179.length : Int) := of_decide_eq_true (by first | (with_reducible assumption) | assumption); obtain ⟨ad184, A184_0, c184_0, e184, hx184_0, hl184_0, hi184_0⟩ := at_L2 (Kd.N_reads' HO_7.out).2.2 x10_2 p184 q184; obtain rfl : ad182 = ad184 := (by injection e184); obtain ⟨ce184, hce184, hMe184, hcc184⟩ := Kd.N_get HO_7.out [] x10_2 p184 (by first | exact q184 | exact of_decide_eq_true (by first | (with_reducible assumption) | assumption) | (have e_ := (Kd.N_reads' HO_7.out).1; omega)); obtain ⟨ua184_0, uc184_0, rfl, ul184_0, ge184_0⟩ := Kd.FK_slice_open hMe184; have hv184_0 := hcc184 0 _ rfl; rw [Nat.add_zero, show ((Kd.slice 3 (Kd.int .i64))).sz = 1 from rfl, Nat.mul_one] at hv184_0; replace hv184_0 := Option.some.inj (hv184_0.symm.trans hx184_0); injection hv184_0 with hva_ hvn_ hvc_; rw [hva_] at ge184_0; rw [hvc_] at ul184_0; have HL184_0 := Aside0.mk (show Kd.V (Kd.int .i64) 3 _ w.heap.size _ _ (rd_L2 t179 x10_2) from Kd.V_mk ul184_0 ge184_0); clear hva_ hvn_ hvc_ ge184_0 ul184_0; clear hcc184 hce184; have HR184_0 := Aside0.mk hi184_0; have HC184_0 := Aside0.mk hl184_0; clear hi184_0 hl184_0; replace p184 := eq_true p184; replace q184 := eq_true q184; have ea_ := Option.some.inj (hx182_0.symm.trans hx184_0); injection ea_ with ea_ en_ ec_; subst ea_; subst ec_; clear en_)); try go_wp2_with (first | (go_at_call 14; (with_reducible refine (glossatorref4_FuzzyAlignmentScore.calls k2 a0 a1 _ _ (rd_L2 t179 x10_2) t183 _ ?side1 ?side2 A10.out).mono ?_); (case side1 => repeat (first | exact (by repeat (first | (with_reducible exact HR182_0.out) | (with_reducible refine Kd.C_alloc ?_ _) | (with_reducible refine Kd.C_drewN ?_ _) | (with_reducible refine Kd.C_drew ?_) | exact HR182_0.out)) | (with_reducible refine Kd.C_alloc ?_ _) | (with_reducible refine Kd.C_drewN ?_ _) | (with_reducible refine Kd.C_drew ?_))); (case side2 => exact HC182_0.out); rintro e w' ⟨rfl, ⟨nd, rfl⟩⟩; (try first | exact ⟨rfl, _, World.drewN_drewN _ _ _⟩ | exact ⟨rfl, _, Eq.trans (World.drewN_drewN _ _ _) (congrArg (World.drewN _) (Nat.add_assoc _ _ _))⟩); have p184 : 0 ≤ (x10_2 : Int) := of_decide_eq_true (by first | (with_reducible assumption) | assumption); have q184 : x10_2 < (t179.length : Int) := of_decide_eq_true (by first | (with_reducible assumption) | assumption); obtain ⟨ad184, A184_0, c184_0, e184, hx184_0, hl184_0, hi184_0⟩ := at_L2 (Kd.N_reads' HO_7.out).2.2 x10_2 p184 q184; obtain rfl : ad182 = ad184 := (by injection e184); obtain ⟨ce184, hce184, hMe184, hcc184⟩ := Kd.N_get HO_7.out [] x10_2 p184 (by first | exact q184 | exact of_decide_eq_true (by first | (with_reducible assumption) | assumption) | (have e_ := (Kd.N_reads' HO_7.out).1; omega)); obtain ⟨ua184_0, uc184_0, rfl, ul184_0, ge184_0⟩ := Kd.FK_slice_open hMe184; have hv184_0 := hcc184 0 _ rfl; rw [Nat.add_zero, show ((Kd.slice 3 (Kd.int .i64))).sz = 1 from rfl, Nat.mul_one] at hv184_0; replace hv184_0 := Option.some.inj (hv184_0.symm.trans hx184_0); injection hv184_0 with hva_ hvn_ hvc_; rw [hva_] at ge184_0; rw [hvc_] at ul184_0; have HL184_0 := Aside0.mk (show Kd.V (Kd.int .i64) 3 _ w.heap.size _ _ (rd_L2 t179 x10_2) from Kd.V_mk ul184_0 ge184_0); clear hva_ hvn_ hvc_ ge184_0 ul184_0; clear hcc184 hce184; have HR184_0 := Aside0.mk hi184_0; have HC184_0 := Aside0.mk hl184_0; clear hi184_0 hl184_0; replace p184 := eq_true p184; replace q184 := eq_true q184; have ea_ := Option.some.inj (hx182_0.symm.trans hx184_0); injection ea_ with ea_ en_ ec_; subst ea_; subst ec_; clear en_)))
                  go_roundg k2
                  case measure => have := HJ2.out; have := HK2.out; omega
                  case rel => exact ⟨(t183), (rd_L2 t179 x10_2), (wrap64 (x10_2 + 1)), (by first | rfl | (simp; done) | (simp [*]; done) | (simp [isEmpty_bne]; done)), (by first | rfl | (simp; done) | (simp [*]; done) | (simp [isEmpty_bne]; done)), H', ⟨by have := HJ2.out; have := HK2.out; omega⟩, ⟨by (with_reducible repeat (first | apply Kd.N_alloc | apply Kd.N_drewN | apply Kd.N_drew)); exact HO_7.out⟩, ⟨by (with_reducible repeat (first | apply Kd.V_alloc | apply Kd.V_drewN | apply Kd.V_drew)); exact HL184_0.out⟩, ⟨by repeat (first | (with_reducible first | exact HB.out | apply below_alloc | apply pw_below_drewN | apply below_drew1) | exact HB.out)⟩⟩
                · rw [if_neg c11] at H
                  have c11b0 : decide (x8_2 < t183) = false := decide_eq_false c11
                  clear c11
                  have H' := Aside0.mk H
                  clear H
                  obtain ⟨Ao13, co13, eo13⟩ := Kd.N_slice HO_7.out
                  subst eo13
                  have p182 : 0 ≤ (x10_2 : Int) := of_decide_eq_true (by first | (with_reducible assumption) | assumption)
                  have q182 : x10_2 < (t179.length : Int) := of_decide_eq_true (by first | (with_reducible assumption) | assumption)
                  obtain ⟨ad182, A182_0, c182_0, e182, hx182_0, hl182_0, hi182_0⟩ := at_L2 (Kd.N_reads' HO_7.out).2.2 x10_2 p182 q182
                  cases e182
                  obtain ⟨ce182, hce182, hMe182, hcc182⟩ := Kd.N_get HO_7.out [] x10_2 p182 (by first | exact q182 | exact of_decide_eq_true (by first | (with_reducible assumption) | assumption) | (have e_ := (Kd.N_reads' HO_7.out).1; omega))
                  obtain ⟨ua182_0, uc182_0, rfl, ul182_0, ge182_0⟩ := Kd.FK_slice_open hMe182
                  have hv182_0 := hcc182 0 _ rfl
                  rw [Nat.add_zero, show ((Kd.slice 3 (Kd.int .i64))).sz = 1 from rfl, Nat.mul_one] at hv182_0
                  replace hv182_0 := Option.some.inj (hv182_0.symm.trans hx182_0)
                  injection hv182_0 with hva_ hvn_ hvc_
                  rw [hva_] at ge182_0
                  rw [hvc_] at ul182_0
                  have HL182_0 := Aside0.mk (show Kd.V (Kd.int .i64) 3 _ w.heap.size _ _ (rd_L2 t179 x10_2) from Kd.V_mk ul182_0 ge182_0)
                  clear hva_ hvn_ hvc_ ge182_0 ul182_0
                  clear hcc182 hce182
                  have HR182_0 := Aside0.mk hi182_0
                  have HC182_0 := Aside0.mk hl182_0
                  clear hi182_0 hl182_0
                  replace p182 := eq_true p182
                  replace q182 := eq_true q182
                  go_wp2_with (first | (go_at_call 14; (with_reducible refine (glossatorref4_FuzzyAlignmentScore.calls k2 a0 a1 _ _ (rd_L2 t179 x10_2) t183 _ ?side1 ?side2 A10.out).mono ?_); (case side1 => repeat (first | exact (by repeat (first | (with_reducible exact HR182_0.out) | (with_reducible refine Kd.C_alloc ?_ _) | (with_reducible refine Kd.C_drewN ?_ _) | (with_reducible refine Kd.C_drew ?_) | exact HR182_0.out)) | (with_reducible refine Kd.C_alloc ?_ _) | (with_reducible refine Kd.C_drewN ?_ _) | (with_reducible refine Kd.C_drew ?_))); (case side2 => exact HC182_0.out); rintro e w' ⟨rfl, ⟨nd, rfl⟩⟩; (try first | exact ⟨rfl, _, World.drewN_drewN _ _ _⟩ | exact ⟨rfl, _, Eq.trans (World.drewN_drewN _ _ _) (congrArg (World.drewN _) (Nat.add_assoc _ _ _))⟩)))
                  repeat (go_quiet (first | (go_at_call 14; (with_reducible refine (glossatorref4_FuzzyAlignmentScore.calls k2 a0 a1 _ _ (rd_L2 t179 x10_2) t183 _ ?side1 ?side2 A10.out).mono ?_); (case side1 => repeat (first | exact (by repeat (first | (with_reducible exact HR182_0.out) | (with_reducible refine Kd.C_alloc ?_ _) | (with_reducible refine Kd.C_drewN ?_ _) | (with_reducible refine Kd.C_drew ?_) | exact HR182_0.out)) | (with_reducible refine Kd.C_alloc ?_ _) | (with_reducible refine Kd.C_drewN ?_ _) | (with_reducible refine Kd.C_drew ?_))); (case side2 => exact HC182_0.out); rintro e w' ⟨rfl, ⟨nd, rfl⟩⟩; (try first | exact ⟨rfl, _, World.drewN_drewN _ _ _⟩ | exact ⟨rfl, _, Eq.trans (World.drewN_drewN _ _ _) (congrArg (World.drewN _) (Nat.add_assoc _ _ _))⟩))); try go_wp2_with (first | (go_at_call 14; (with_reducible refine (glossatorref4_FuzzyAlignmentScore.calls k2 a0 a1 _ _ (rd_L2 t179 x10_2) t183 _ ?side1 ?side2 A10.out).mono ?_); (case side1 => repeat (first | exact (by repeat (first | (with_reducible exact HR182_0.out) | (with_reducible refine Kd.C_alloc ?_ _) | (with_reducible refine Kd.C_drewN ?_ _) | (with_reducible refine Kd.C_drew ?_) | exact HR182_0.out)) | (with_reducible refine Kd.C_alloc ?_ _) | (with_reducible refine Kd.C_drewN ?_ _) | (with_reducible refine Kd.C_drew ?_))); (case side2 => exact HC182_0.out); rintro e w' ⟨rfl, ⟨nd, rfl⟩⟩; (try first | exact ⟨rfl, _, World.drewN_drewN _ _ _⟩ | exact ⟨rfl, _, Eq.trans (World.drewN_drewN _ _ _) (congrArg (World.drewN _) (Nat.add_assoc _ _ _))⟩))))
                  go_roundg k2
                  case measure => have := HJ2.out; have := HK2.out; omega
                  case rel => exact ⟨(x8_2), (x9_2), (wrap64 (x10_2 + 1)), (by first | rfl | (simp; done) | (simp [*]; done) | (simp [isEmpty_bne]; done)), (by first | rfl | (simp; done) | (simp [*]; done) | (simp [isEmpty_bne]; done)), H', ⟨by have := HJ2.out; have := HK2.out; omega⟩, ⟨by (with_reducible repeat (first | apply Kd.N_alloc | apply Kd.N_drewN | apply Kd.N_drew)); exact HO_7.out⟩, ⟨by (with_reducible repeat (first | apply Kd.V_alloc | apply Kd.V_drewN | apply Kd.V_drew)); exact HO_9.out⟩, ⟨by repeat (first | (with_reducible first | exact HB.out | apply below_alloc | apply pw_below_drewN | apply below_drew1) | exact HB.out)⟩⟩
              · rw [if_neg c9] at H
                exact absurd H (by simp)
            · rw [if_neg c8] at H
              have c8b0 : decide (x10_2 < (t179.length : Int)) = false := decide_eq_false c8
              clear c8
              by_cases c14 : x8_2 < 0
              · rw [if_pos c14] at H
                have c14b0 : decide (x8_2 < 0) = true := decide_eq_true c14
                clear c14
                simp only [Option.some.injEq, Prod.mk.injEq] at H
                obtain ⟨rfl, rfl, rfl⟩ := H
                obtain ⟨Ao15, co15, eo15⟩ := Kd.N_slice HO_7.out
                subst eo15
                go_wp2
                repeat (go_quiet (fail); try go_wp2)
                go_ret3
                exact ⟨_, by first | rfl | (simp [errW_none, errW_some] <;> rfl) | (simp [*, errW_none, errW_some] <;> rfl), (by first | exact Kd.V_nil _ _ _ _ _ | exact Kd.R_V (by first | exact Kd.R_nil _ _ _ _ _ | exact Kd.N_nil _ _ _ _ _ | exact Kd.V_nil _ _ _ _ _ | exact Kd.Q_nil _ _ _ _ _ | exact Kd.S_nil _ _ _ _ _)), by repeat (first | (with_reducible first | exact HB.out | apply below_alloc | apply pw_below_drewN | apply below_drew1) | exact HB.out)⟩
              · rw [if_neg c14] at H
                have c14b0 : decide (x8_2 < 0) = false := decide_eq_false c14
                clear c14
                simp only [Option.some.injEq, Prod.mk.injEq] at H
                obtain ⟨rfl, rfl, rfl⟩ := H
                obtain ⟨Ao16, co16, eo16⟩ := Kd.N_slice HO_7.out
                subst eo16
                go_wp2
                repeat (go_quiet (fail); try go_wp2)
                go_ret3
                exact ⟨_, by first | rfl | (simp [errW_none, errW_some] <;> rfl) | (simp [*, errW_none, errW_some] <;> rfl), by (with_reducible repeat (first | apply Kd.V_alloc | apply Kd.V_drewN | apply Kd.V_drew)); exact Kd.V_mono HO_9.out (fun _ hk => hk.1), by repeat (first | (with_reducible first | exact HB.out | apply below_alloc | apply pw_below_drewN | apply below_drew1) | exact HB.out)⟩

end Go.Proofs.Ytpkdgdhfhgelbaa.QFuzzyScoreEqualsReference
