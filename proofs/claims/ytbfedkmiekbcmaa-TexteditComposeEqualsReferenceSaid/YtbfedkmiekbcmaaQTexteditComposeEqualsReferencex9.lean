-- Written by gen.py (this repo's wip/), which runs the kit's print.py with more arms. Lean checks it.
import Derived.Test.YtbfedkmiekbcmaaQTexteditComposeEqualsReferencex0
import Derived.Test.YtbfedkmiekbcmaaQTexteditComposeEqualsReferencex3
import Derived.Test.YtbfedkmiekbcmaaQTexteditComposeEqualsReferencex4
import Derived.Test.YtbfedkmiekbcmaaQTexteditComposeEqualsReferencex6
import Derived.Test.YtbfedkmiekbcmaaQTexteditComposeEqualsReferencex7
import Derived.Test.YtbfedkmiekbcmaaQTexteditComposeEqualsReferencex8
namespace Go.Proofs.Ytbfedkmiekbcmaa.QTexteditComposeEqualsReference
open Go.RowKit Go.Proofs.YtbfedkmiekbcmaaW.PrintWords Go.Proofs.YtbfedkmiekbcmaaW.PrintLast Go.Proofs.YtbfedkmiekbcmaaW.PrintMore
attribute [local go_sem] max2_int min2_int max_two min_two max_three min_three max_four min_four   -- for this text's walks alone
set_option linter.unusedVariables false
set_option linter.unusedSimpArgs false

private theorem isEmpty_bne {α : Type} [BEq α] (l : List α) : (l != []) = !l.isEmpty := by cases l <;> rfl

/-! ### glossatorref4_applyToTrace: function 118 -/
mutual
def glossatorref4_applyToTrace.l0 : Nat → List (S193) → List (S137) → List (S193) → Int → Option ((List (S193)))
  | 0, _, _, _, _ => none
  | k + 1, x0, x1, x5, x6 => if x6 ≤ (x0.length : Int) then ((glossatorref4_InsertedAt.f k x1 x6).bind fun t207 => (glossatorref4_applyToTrace.l1 k x0 x1 x5 x6 t207 0)) else (some x5)
def glossatorref4_applyToTrace.l1 : Nat → List (S193) → List (S137) → List (S193) → Int → ByteArray → Int → Option ((List (S193)))
  | 0, _, _, _, _, _, _ => none
  | k + 1, x0, x1, x5, x6, x7, x8 => if x8 < (x7.size : Int) then (if 0 ≤ x8 then (if x5.length < 8796093022208 then (glossatorref4_applyToTrace.l1 k x0 x1 (x5 ++ [(⟨bt x7 x8, (-1)⟩ : S193)]) x6 x7 (wrap64 (x8 + 1))) else (none)) else (none)) else (if x6 < (x0.length : Int) then ((glossatorref4_DeletesByte.f k x1 x6).bind fun t211 => (if t211 = true then (glossatorref4_applyToTrace.l0 k x0 x1 x5 (wrap64 (x6 + 1))) else (if 0 ≤ x6 then (if x5.length < 8796093022208 then (glossatorref4_applyToTrace.l0 k x0 x1 (x5 ++ [(⟨(rd_T193 x0 x6).f0, (rd_T193 x0 x6).f1⟩ : S193)]) (wrap64 (x6 + 1))) else (none)) else (none)))) else (glossatorref4_applyToTrace.l0 k x0 x1 x5 (wrap64 (x6 + 1))))
end
def glossatorref4_applyToTrace.f (k : Nat) (l0 : List (S193)) (l1 : List (S137)) : Option ((List (S193))) := glossatorref4_applyToTrace.l0 k l0 l1 ([] : List (S193)) 0
theorem glossatorref4_applyToTrace.mono_l : ∀ k, (∀ y0 y1 y2 y3, LeO (glossatorref4_applyToTrace.l0 k y0 y1 y2 y3) (glossatorref4_applyToTrace.l0 (k + 1) y0 y1 y2 y3)) ∧ (∀ y0 y1 y2 y3 y4 y5, LeO (glossatorref4_applyToTrace.l1 k y0 y1 y2 y3 y4 y5) (glossatorref4_applyToTrace.l1 (k + 1) y0 y1 y2 y3 y4 y5))
  | 0 => ⟨fun _ _ _ _ r h => by simp [glossatorref4_applyToTrace.l0] at h, fun _ _ _ _ _ _ r h => by simp [glossatorref4_applyToTrace.l1] at h⟩
  | k + 1 => by
    obtain ⟨ih0, ih1⟩ := glossatorref4_applyToTrace.mono_l k
    refine ⟨?_, ?_⟩
    · intro y0 y1 y2 y3
      unfold glossatorref4_applyToTrace.l0
      repeat' first
      | (with_reducible exact ih0 _ _ _ _)
      | (with_reducible exact ih1 _ _ _ _ _ _)
      | (with_reducible exact glossatorref4_DeletesByte.mono _ _ _)
      | (with_reducible exact glossatorref4_InsertedAt.mono _ _ _)
      | (with_reducible exact LeO.refl _)
      | (with_reducible exact LeO.none _)
      | (with_reducible refine LeO.ite ?_ ?_)
      | (with_reducible refine LeO.bind ?_ (fun _ => ?_))
      | exact ih0 _ _ _ _
      | exact ih1 _ _ _ _ _ _
      | exact glossatorref4_DeletesByte.mono _ _ _
      | exact glossatorref4_InsertedAt.mono _ _ _
      | exact LeO.none _
      | refine LeO.ite ?_ ?_
      | refine LeO.bind ?_ (fun _ => ?_)
    · intro y0 y1 y2 y3 y4 y5
      unfold glossatorref4_applyToTrace.l1
      repeat' first
      | (with_reducible exact ih0 _ _ _ _)
      | (with_reducible exact ih1 _ _ _ _ _ _)
      | (with_reducible exact glossatorref4_DeletesByte.mono _ _ _)
      | (with_reducible exact glossatorref4_InsertedAt.mono _ _ _)
      | (with_reducible exact LeO.refl _)
      | (with_reducible exact LeO.none _)
      | (with_reducible refine LeO.ite ?_ ?_)
      | (with_reducible refine LeO.bind ?_ (fun _ => ?_))
      | exact ih0 _ _ _ _
      | exact ih1 _ _ _ _ _ _
      | exact glossatorref4_DeletesByte.mono _ _ _
      | exact glossatorref4_InsertedAt.mono _ _ _
      | exact LeO.none _
      | refine LeO.ite ?_ ?_
      | refine LeO.bind ?_ (fun _ => ?_)
theorem glossatorref4_applyToTrace.mono : ∀ a0 a1 k, LeO (glossatorref4_applyToTrace.f k a0 a1) (glossatorref4_applyToTrace.f (k + 1) a0 a1) := by
  intro a0 a1 k
  obtain ⟨ih0, ih1⟩ := glossatorref4_applyToTrace.mono_l k
  unfold glossatorref4_applyToTrace.f
  repeat' first
      | (with_reducible exact ih0 _ _ _ _)
      | (with_reducible exact ih1 _ _ _ _ _ _)
      | (with_reducible exact glossatorref4_DeletesByte.mono _ _ _)
      | (with_reducible exact glossatorref4_InsertedAt.mono _ _ _)
      | (with_reducible exact LeO.refl _)
      | (with_reducible exact LeO.none _)
      | (with_reducible refine LeO.ite ?_ ?_)
      | (with_reducible refine LeO.bind ?_ (fun _ => ?_))
      | exact ih0 _ _ _ _
      | exact ih1 _ _ _ _ _ _
      | exact glossatorref4_DeletesByte.mono _ _ _
      | exact glossatorref4_InsertedAt.mono _ _ _
      | exact LeO.none _
      | refine LeO.ite ?_ ?_
      | refine LeO.bind ?_ (fun _ => ?_)
set_option maxHeartbeats 8000000 in
set_option maxRecDepth 100000 in
theorem glossatorref4_applyToTrace.calls (k : Nat) (A0 : Option Addr) (c0 : Nat) (l0 : List (S193)) (A1 : Option Addr) (c1 : Nat) (l1 : List (S137)) (r : List (S193)) (w : World) (hr0 : Kd.C k193 w A0 l0.length l0) (hc0 : l0.length ≤ c0) (hr1 : Kd.C k137 w A1 l1.length l1) (hc1 : l1.length ≤ c1) (h : glossatorref4_applyToTrace.f k l0 l1 = some r) :
    Calls Try.prog 118 #[.slice A0 l0.length c0, .slice A1 l1.length c1] w fun e w' => ∃ v0_ : Value, e = .returned (v0_) ∧ Kd.R k193 193 w' w.heap.size (fun _ => True) v0_ r ∧ Below w.heap.size w w' := by
  have hu193 := Try.underlying193
  have HR0 := Aside0.mk hr0
  have HC0 := Aside0.mk hc0
  clear hr0 hc0
  have HR1 := Aside0.mk hr1
  have HC1 := Aside0.mk hc1
  clear hr1 hc1
  have HB := Aside0.mk (Below.refl w.heap.size w)
  have H : (glossatorref4_applyToTrace.l0 k l0 l1 ([] : List (S193)) 0) = some r := h
  clear h
  have H' := Aside0.mk H
  clear H
  go_enter Try.func118, Try.ntmps118
  go_wp2
  go_loopg [5, 6] k (fun kq v5 v6 w' => ∃ (x5_1 : List (S193)) (x6_1 : Int), v6 = .int .i64 x6_1 ∧ Aside0 (glossatorref4_applyToTrace.l0 kq l0 l1 x5_1 x6_1 = some r) ∧ Aside0 (kq ≤ k) ∧ Aside0 (Kd.R k193 193 w' w.heap.size (fun _ => True) v5 x5_1) ∧ Aside0 (Below w.heap.size w w'))
  case atStart => exact ⟨(([] : List (S193))), (0), (by first | rfl | (simp; done) | (simp [*]; done) | (simp [isEmpty_bne]; done)), H', ⟨Nat.le_refl _⟩, ⟨by first | exact Kd.R_nil _ _ _ _ _ | exact Kd.N_nil _ _ _ _ _ | exact Kd.V_nil _ _ _ _ _ | exact Kd.Q_nil _ _ _ _ _ | exact Kd.S_nil _ _ _ _ _⟩, ⟨by repeat (first | (with_reducible first | exact HB.out | apply below_alloc | apply pw_below_drewN | apply below_drew1) | exact HB.out)⟩⟩
  case round =>
    clear H'
    try clear c1
    try clear p2
    obtain ⟨x5_1, x6_1, rfl, HA, HK1, HO_5, HB⟩ := hrel
    cases gk with
    | zero => exact absurd HA.out (by simp [glossatorref4_applyToTrace.l0])
    | succ k1 =>
      have H := HA.out
      clear HA
      simp only [glossatorref4_applyToTrace.l0] at H
      by_cases c3 : x6_1 ≤ (l0.length : Int)
      · rw [if_pos c3] at H
        have c3b0 : decide (x6_1 ≤ (l0.length : Int)) = true := decide_eq_true c3
        clear c3
        replace H := Option.bind_eq_some_iff.mp H
        obtain ⟨t207, A40, H⟩ := H
        replace H : (glossatorref4_applyToTrace.l1 k1 l0 l1 x5_1 x6_1 t207 0) = some r := H
        have A4 := Aside0.mk A40
        clear A40
        have H' := Aside0.mk H
        clear H
        go_wp2_with (first | ((with_reducible refine gate_callee (f := 121) rfl ?_); refine goesL_ (some 17) rfl rfl Try.func121 (by kernel_rfl) rfl #[.slice A1 l1.length c1, .int .i64 x6_1] rfl (by (try simp only [List.map_toArray, List.map_cons, List.map_nil]); first | done | rfl | (simp only [List.length_drop, List.length_take]; rfl)) ?_; (with_reducible refine (glossatorref4_InsertedAt.calls k1 _ _ l1 x6_1 t207 _ ?side1 ?side2 A4.out).mono ?_); (case side1 => repeat (first | exact (Kd.C_below HR1.out HB.out) | (with_reducible refine Kd.C_alloc ?_ _) | (with_reducible refine Kd.C_drewN ?_ _) | (with_reducible refine Kd.C_drew ?_))); (case side2 => exact HC1.out); rintro e w' ⟨rfl, ⟨nd, rfl⟩⟩; refine ⟨_, rfl, ?_⟩))
        go_loopg [5, 8] k1 (fun kq v5 v8 w' => ∃ (x5_2 : List (S193)) (x8_2 : Int), v8 = .int .i64 x8_2 ∧ Aside0 (glossatorref4_applyToTrace.l1 kq l0 l1 x5_2 x6_1 t207 x8_2 = some r) ∧ Aside0 (kq ≤ k1) ∧ Aside0 (Kd.R k193 193 w' w.heap.size (fun _ => True) v5 x5_2) ∧ Aside0 (Below w.heap.size w w'))
        case atStart => exact ⟨(x5_1), (0), (by first | rfl | (simp; done) | (simp [*]; done) | (simp [isEmpty_bne]; done)), H', ⟨Nat.le_refl _⟩, ⟨by (with_reducible repeat (first | apply Kd.R_alloc | apply Kd.R_drewN | apply Kd.R_drew)); exact HO_5.out⟩, ⟨by repeat (first | (with_reducible first | exact HB.out | apply below_alloc | apply pw_below_drewN | apply below_drew1) | exact HB.out)⟩⟩
        case round =>
          clear H'
          try clear c1
          try clear p2
          try clear c3
          try clear c3b0
          try clear p2
          obtain ⟨x5_2, x8_2, rfl, HA, HK2, HO_5, HB⟩ := hrel
          cases gk with
          | zero => exact absurd HA.out (by simp [glossatorref4_applyToTrace.l1])
          | succ k2 =>
            have H := HA.out
            clear HA
            simp only [glossatorref4_applyToTrace.l1] at H
            by_cases c5 : x8_2 < (t207.size : Int)
            · rw [if_pos c5] at H
              have c5b0 : decide (x8_2 < (t207.size : Int)) = true := decide_eq_true c5
              clear c5
              by_cases c6 : 0 ≤ x8_2
              · rw [if_pos c6] at H
                have c6b0 : decide (0 ≤ x8_2) = true := decide_eq_true c6
                clear c6
                by_cases c8 : x5_2.length < 8796093022208
                · rw [if_pos c8] at H
                  have LMc8 := Aside0.mk c8
                  clear c8
                  obtain ⟨y208, hy208⟩ : ∃ y_ : List (S193), y_ = (x5_2 ++ [(⟨bt t207 x8_2, (-1)⟩ : S193)]) := ⟨_, rfl⟩
                  replace H : (glossatorref4_applyToTrace.l1 k2 l0 l1 y208 x6_1 t207 (wrap64 (x8_2 + 1))) = some r := by first | (rw [hy208]; with_reducible exact H) | (have H2_ := (Option.bind_some _ _).symm.trans H; rw [hy208]; with_reducible exact H2_) | (have H2_ := (Option.bind_some _ _).symm.trans H; with_reducible exact H2_) | with_reducible exact H | (rw [hy208]; exact H) | exact H
                  have Ny208 := Aside0.mk hy208
                  clear hy208
                  have H' := Aside0.mk H
                  clear H
                  have p7 : 0 ≤ (x8_2 : Int) := of_decide_eq_true (by first | (with_reducible assumption) | assumption)
                  have q7 : x8_2 < (t207.size : Int) := of_decide_eq_true (by first | (with_reducible assumption) | assumption)
                  have hx7 := bt_at t207 x8_2
                  replace p7 := eq_true p7
                  replace q7 := eq_true q7
                  go_wp2_with (first | ((with_reducible refine gate_builtin (b := .append) (xs := #[.tmp 24, .tmp 29]) rfl ?_); at_builtin; refine Kd.R_append k193 (w0 := w) w.heap.size rfl (.tmp 24) (.tmp 29) 118 193 (.agg #[(.int .u8 0), (.int .i64 0)]) 16 rfl Try.underlying118 info193 rfl (by decide) (by omega) u5 x5_2 (⟨bt t207 x8_2, (-1)⟩ : S193) [.int .u8 (bt t207 x8_2), .int .i64 (-1)] (fun _ => True) (fun _ => False) rfl rfl ?aP (fun _ hk => hk.elim) ?aF ?aO ?aB ?aS ?aL ?_; (case aP => exact k193_mkM _ _ _ (⟨bt t207 x8_2, (-1)⟩ : S193)); (case aB => exact (by repeat (first | (with_reducible first | exact HB.out | apply below_alloc | apply pw_below_drewN | apply below_drew1) | exact HB.out))); (case aF => exact (fun _ _ => trivial)); (case aO => exact (by (with_reducible repeat (first | apply Kd.R_alloc | apply Kd.R_drewN | apply Kd.R_drew)); exact HO_5.out)); (case aS => exact (below_size (by repeat (first | (with_reducible first | exact HB.out | apply below_alloc | apply pw_below_drewN | apply below_drew1) | exact HB.out)))); (case aL => have := LMc8.out; omega); intro v209 w9 ho hb hg hat; rw [← Ny208.out] at ho; have n0_ := Aside0.mk (hb); have n1_ := Aside0.mk (ho); clear HB; clear HO_5; have HB := n0_; have HO210 := n1_; clear n0_ n1_; clear ho hb hg hat))
                  go_roundg k2
                  case measure => have := HK1.out; have := HK2.out; omega
                  case rel => exact ⟨(y208), (wrap64 (x8_2 + 1)), (by first | rfl | (simp; done) | (simp [*]; done) | (simp [isEmpty_bne]; done)), H', ⟨by have := HK1.out; have := HK2.out; omega⟩, ⟨by (with_reducible repeat (first | apply Kd.R_alloc | apply Kd.R_drewN | apply Kd.R_drew)); exact HO210.out⟩, ⟨by repeat (first | (with_reducible first | exact HB.out | apply below_alloc | apply pw_below_drewN | apply below_drew1) | exact HB.out)⟩⟩
                · rw [if_neg c8] at H
                  exact absurd H (by simp)
              · rw [if_neg c6] at H
                exact absurd H (by simp)
            · rw [if_neg c5] at H
              have c5b0 : decide (x8_2 < (t207.size : Int)) = false := decide_eq_false c5
              clear c5
              by_cases c10 : x6_1 < (l0.length : Int)
              · rw [if_pos c10] at H
                have c10b0 : decide (x6_1 < (l0.length : Int)) = true := decide_eq_true c10
                clear c10
                replace H := Option.bind_eq_some_iff.mp H
                obtain ⟨t211, A110, H⟩ := H
                replace H : (if t211 = true then (glossatorref4_applyToTrace.l0 k2 l0 l1 x5_2 (wrap64 (x6_1 + 1))) else (if 0 ≤ x6_1 then (if x5_2.length < 8796093022208 then (glossatorref4_applyToTrace.l0 k2 l0 l1 (x5_2 ++ [(⟨(rd_T193 l0 x6_1).f0, (rd_T193 l0 x6_1).f1⟩ : S193)]) (wrap64 (x6_1 + 1))) else (none)) else (none))) = some r := H
                have A11 := Aside0.mk A110
                clear A110
                by_cases c12 : t211 = true
                · subst c12
                  have H1 : (glossatorref4_applyToTrace.l0 k2 l0 l1 x5_2 (wrap64 (x6_1 + 1))) = some r := by rw [if_pos rfl] at H; exact H
                  clear H
                  have H := H1
                  clear H1
                  have H' := Aside0.mk H
                  clear H
                  go_wp2_with (first | (go_at_call 122; (with_reducible refine (glossatorref4_DeletesByte.calls k2 _ _ l1 x6_1 true _ ?side1 ?side2 A11.out).mono ?_); (case side1 => repeat (first | exact (Kd.C_below HR1.out HB.out) | (with_reducible refine Kd.C_alloc ?_ _) | (with_reducible refine Kd.C_drewN ?_ _) | (with_reducible refine Kd.C_drew ?_))); (case side2 => exact HC1.out); rintro e w' ⟨rfl, ⟨nd, rfl⟩⟩))
                  go_roundg k2
                  case measure => have := HK1.out; have := HK2.out; omega
                  case rel => exact ⟨(x5_2), (wrap64 (x6_1 + 1)), (by first | rfl | (simp; done) | (simp [*]; done) | (simp [isEmpty_bne]; done)), H', ⟨by have := HK1.out; have := HK2.out; omega⟩, ⟨by (with_reducible repeat (first | apply Kd.R_alloc | apply Kd.R_drewN | apply Kd.R_drew)); exact HO_5.out⟩, ⟨by repeat (first | (with_reducible first | exact HB.out | apply below_alloc | apply pw_below_drewN | apply below_drew1) | exact HB.out)⟩⟩
                · replace c12 := Bool.eq_false_iff.mpr c12
                  subst c12
                  have H1 : (if 0 ≤ x6_1 then (if x5_2.length < 8796093022208 then (glossatorref4_applyToTrace.l0 k2 l0 l1 (x5_2 ++ [(⟨(rd_T193 l0 x6_1).f0, (rd_T193 l0 x6_1).f1⟩ : S193)]) (wrap64 (x6_1 + 1))) else (none)) else (none)) = some r := by rw [if_neg (show ¬ (false = true) by decide)] at H; exact H
                  clear H
                  have H := H1
                  clear H1
                  by_cases c13 : 0 ≤ x6_1
                  · rw [if_pos c13] at H
                    have c13b0 : decide (0 ≤ x6_1) = true := decide_eq_true c13
                    clear c13
                    by_cases c14 : x5_2.length < 8796093022208
                    · rw [if_pos c14] at H
                      have LMc14 := Aside0.mk c14
                      clear c14
                      obtain ⟨y213, hy213⟩ : ∃ y_ : List (S193), y_ = (x5_2 ++ [(⟨(rd_T193 l0 x6_1).f0, (rd_T193 l0 x6_1).f1⟩ : S193)]) := ⟨_, rfl⟩
                      replace H : (glossatorref4_applyToTrace.l0 k2 l0 l1 y213 (wrap64 (x6_1 + 1))) = some r := by first | (rw [hy213]; with_reducible exact H) | (have H2_ := (Option.bind_some _ _).symm.trans H; rw [hy213]; with_reducible exact H2_) | (have H2_ := (Option.bind_some _ _).symm.trans H; with_reducible exact H2_) | with_reducible exact H | (rw [hy213]; exact H) | exact H
                      have Ny213 := Aside0.mk hy213
                      clear hy213
                      have H' := Aside0.mk H
                      clear H
                      go_wp2_with (first | (go_at_call 122; (with_reducible refine (glossatorref4_DeletesByte.calls k2 _ _ l1 x6_1 false _ ?side1 ?side2 A11.out).mono ?_); (case side1 => repeat (first | exact (Kd.C_below HR1.out HB.out) | (with_reducible refine Kd.C_alloc ?_ _) | (with_reducible refine Kd.C_drewN ?_ _) | (with_reducible refine Kd.C_drew ?_))); (case side2 => exact HC1.out); rintro e w' ⟨rfl, ⟨nd, rfl⟩⟩; have p212 : 0 ≤ (x6_1 : Int) := of_decide_eq_true (by first | (with_reducible assumption) | assumption); have q212 : x6_1 < (l0.length : Int) := of_decide_eq_true (by first | (with_reducible assumption) | assumption); obtain ⟨ad212, e212, hx212_0, hx212_1⟩ := at_T193 HR0.out x6_1 p212 q212; cases e212; replace hx212_0 := (HB.out.cell (World.block_lt_of_cell? w _ hx212_0)).trans hx212_0; replace hx212_1 := (HB.out.cell (World.block_lt_of_cell? w _ hx212_1)).trans hx212_1; replace p212 := eq_true p212; replace q212 := eq_true q212) | ((with_reducible refine gate_builtin (b := .append) (xs := #[.tmp 41, .tmp 46]) rfl ?_); at_builtin; refine Kd.R_append k193 (w0 := w) w.heap.size rfl (.tmp 41) (.tmp 46) 118 193 (.agg #[(.int .u8 0), (.int .i64 0)]) 16 rfl Try.underlying118 info193 rfl (by decide) (by omega) u5 x5_2 (⟨(rd_T193 l0 x6_1).f0, (rd_T193 l0 x6_1).f1⟩ : S193) [.int .u8 ((rd_T193 l0 x6_1).f0), .int .i64 ((rd_T193 l0 x6_1).f1)] (fun _ => True) (fun _ => False) rfl rfl ?aP (fun _ hk => hk.elim) ?aF ?aO ?aB ?aS ?aL ?_; (case aP => exact k193_mkM _ _ _ (⟨(rd_T193 l0 x6_1).f0, (rd_T193 l0 x6_1).f1⟩ : S193)); (case aB => exact (by repeat (first | (with_reducible first | exact HB.out | apply below_alloc | apply pw_below_drewN | apply below_drew1) | exact HB.out))); (case aF => exact (fun _ _ => trivial)); (case aO => exact (by (with_reducible repeat (first | apply Kd.R_alloc | apply Kd.R_drewN | apply Kd.R_drew)); exact HO_5.out)); (case aS => exact (below_size (by repeat (first | (with_reducible first | exact HB.out | apply below_alloc | apply pw_below_drewN | apply below_drew1) | exact HB.out)))); (case aL => have := LMc14.out; omega); intro v214 w15 ho hb hg hat; rw [← Ny213.out] at ho; have n0_ := Aside0.mk (hb); have n1_ := Aside0.mk (ho); clear HB; clear HO_5; have HB := n0_; have HO215 := n1_; clear n0_ n1_; clear ho hb hg hat))
                      go_roundg k2
                      case measure => have := HK1.out; have := HK2.out; omega
                      case rel => exact ⟨(y213), (wrap64 (x6_1 + 1)), (by first | rfl | (simp; done) | (simp [*]; done) | (simp [isEmpty_bne]; done)), H', ⟨by have := HK1.out; have := HK2.out; omega⟩, ⟨by (with_reducible repeat (first | apply Kd.R_alloc | apply Kd.R_drewN | apply Kd.R_drew)); exact HO215.out⟩, ⟨by repeat (first | (with_reducible first | exact HB.out | apply below_alloc | apply pw_below_drewN | apply below_drew1) | exact HB.out)⟩⟩
                    · rw [if_neg c14] at H
                      exact absurd H (by simp)
                  · rw [if_neg c13] at H
                    exact absurd H (by simp)
              · rw [if_neg c10] at H
                have c10b0 : decide (x6_1 < (l0.length : Int)) = false := decide_eq_false c10
                clear c10
                have H' := Aside0.mk H
                clear H
                go_wp2
                go_roundg k2
                case measure => have := HK1.out; have := HK2.out; omega
                case rel => exact ⟨(x5_2), (wrap64 (x6_1 + 1)), (by first | rfl | (simp; done) | (simp [*]; done) | (simp [isEmpty_bne]; done)), H', ⟨by have := HK1.out; have := HK2.out; omega⟩, ⟨by (with_reducible repeat (first | apply Kd.R_alloc | apply Kd.R_drewN | apply Kd.R_drew)); exact HO_5.out⟩, ⟨by repeat (first | (with_reducible first | exact HB.out | apply below_alloc | apply pw_below_drewN | apply below_drew1) | exact HB.out)⟩⟩
      · rw [if_neg c3] at H
        have c3b0 : decide (x6_1 ≤ (l0.length : Int)) = false := decide_eq_false c3
        clear c3
        obtain rfl := Option.some.inj H
        go_wp2
        go_ret
        exact ⟨_, by first | rfl | (simp [errW_none, errW_some] <;> rfl) | (simp [*, errW_none, errW_some] <;> rfl), by (with_reducible repeat (first | apply Kd.R_alloc | apply Kd.R_drewN | apply Kd.R_drew)); exact HO_5.out, by repeat (first | (with_reducible first | exact HB.out | apply below_alloc | apply pw_below_drewN | apply below_drew1) | exact HB.out)⟩

/-! ### glossatorref4_ComposeEdits: function 71 -/
def glossatorref4_ComposeEdits.l0 : Nat → ByteArray → List (S137) → List (S137) → List (S193) → Int → Option ((List (S137)) × Bool)
  | 0, _, _, _, _, _ => none
  | k + 1, x0, x1, x2, x8, x9 => if x9 < (x0.size : Int) then (if 0 ≤ x9 then (if x8.length < 8796093022208 then (glossatorref4_ComposeEdits.l0 k x0 x1 x2 (x8 ++ [(⟨bt x0 x9, x9⟩ : S193)]) (wrap64 (x9 + 1))) else (none)) else (none)) else ((glossatorref4_applyToTrace.f k x8 x1).bind fun t219 => ((glossatorref4_applyToTrace.f k t219 x2).bind fun t222 => ((glossatorref4_CanonicalEdits.f k (x0.size : Int) t222).bind fun bt225 => (some (bt225.1, bt225.2)))))
def glossatorref4_ComposeEdits.f (k : Nat) (a0 : ByteArray) (l1 : List (S137)) (l2 : List (S137)) : Option ((List (S137)) × Bool) := glossatorref4_ComposeEdits.l0 k a0 l1 l2 ([] : List (S193)) 0
theorem glossatorref4_ComposeEdits.mono_l : ∀ k, (∀ y0 y1 y2 y3 y4, LeO (glossatorref4_ComposeEdits.l0 k y0 y1 y2 y3 y4) (glossatorref4_ComposeEdits.l0 (k + 1) y0 y1 y2 y3 y4))
  | 0 => fun _ _ _ _ _ r h => by simp [glossatorref4_ComposeEdits.l0] at h
  | k + 1 => by
    have ih0 := glossatorref4_ComposeEdits.mono_l k
    · intro y0 y1 y2 y3 y4
      unfold glossatorref4_ComposeEdits.l0
      repeat' first
      | (with_reducible exact ih0 _ _ _ _ _)
      | (with_reducible exact glossatorref4_CanonicalEdits.mono _ _ _)
      | (with_reducible exact glossatorref4_applyToTrace.mono _ _ _)
      | (with_reducible exact LeO.refl _)
      | (with_reducible exact LeO.none _)
      | (with_reducible refine LeO.ite ?_ ?_)
      | (with_reducible refine LeO.bind ?_ (fun _ => ?_))
      | exact ih0 _ _ _ _ _
      | exact glossatorref4_CanonicalEdits.mono _ _ _
      | exact glossatorref4_applyToTrace.mono _ _ _
      | exact LeO.none _
      | refine LeO.ite ?_ ?_
      | refine LeO.bind ?_ (fun _ => ?_)
theorem glossatorref4_ComposeEdits.mono : ∀ a0 a1 a2 k, LeO (glossatorref4_ComposeEdits.f k a0 a1 a2) (glossatorref4_ComposeEdits.f (k + 1) a0 a1 a2) := by
  intro a0 a1 a2 k
  have ih0 := glossatorref4_ComposeEdits.mono_l k
  unfold glossatorref4_ComposeEdits.f
  repeat' first
      | (with_reducible exact ih0 _ _ _ _ _)
      | (with_reducible exact glossatorref4_CanonicalEdits.mono _ _ _)
      | (with_reducible exact glossatorref4_applyToTrace.mono _ _ _)
      | (with_reducible exact LeO.refl _)
      | (with_reducible exact LeO.none _)
      | (with_reducible refine LeO.ite ?_ ?_)
      | (with_reducible refine LeO.bind ?_ (fun _ => ?_))
      | exact ih0 _ _ _ _ _
      | exact glossatorref4_CanonicalEdits.mono _ _ _
      | exact glossatorref4_applyToTrace.mono _ _ _
      | exact LeO.none _
      | refine LeO.ite ?_ ?_
      | refine LeO.bind ?_ (fun _ => ?_)
set_option maxHeartbeats 8000000 in
set_option maxRecDepth 100000 in
theorem glossatorref4_ComposeEdits.calls (k : Nat) (a0 : ByteArray) (A1 : Option Addr) (c1 : Nat) (l1 : List (S137)) (A2 : Option Addr) (c2 : Nat) (l2 : List (S137)) (r1 : List (S137)) (r2 : Bool) (w : World) (hr1 : Kd.C k137 w A1 l1.length l1) (hc1 : l1.length ≤ c1) (hr2 : Kd.C k137 w A2 l2.length l2) (hc2 : l2.length ≤ c2) (h : glossatorref4_ComposeEdits.f k a0 l1 l2 = some (r1, r2)) :
    Calls Try.prog 71 #[.string a0, .slice A1 l1.length c1, .slice A2 l2.length c2] w fun e w' => ∃ v0_ : Value, e = .returned (.tuple #[v0_, .bool r2]) ∧ Kd.R k137 137 w' w.heap.size (fun _ => True) v0_ r1 ∧ Below w.heap.size w w' := by
  have hu193 := Try.underlying193
  have HR1 := Aside0.mk hr1
  have HC1 := Aside0.mk hc1
  clear hr1 hc1
  have HR2 := Aside0.mk hr2
  have HC2 := Aside0.mk hc2
  clear hr2 hc2
  have HB := Aside0.mk (Below.refl w.heap.size w)
  have H : (glossatorref4_ComposeEdits.l0 k a0 l1 l2 ([] : List (S193)) 0) = some (r1, r2) := h
  clear h
  have H' := Aside0.mk H
  clear H
  go_enter Try.func71, Try.ntmps71
  go_wp2
  go_loopg [8, 9] k (fun kq v8 v9 w' => ∃ (x8_1 : List (S193)) (x9_1 : Int), v9 = .int .i64 x9_1 ∧ Aside0 (glossatorref4_ComposeEdits.l0 kq a0 l1 l2 x8_1 x9_1 = some (r1, r2)) ∧ Aside0 (kq ≤ k) ∧ Aside0 (Kd.R k193 193 w' w.heap.size (fun _ => True) v8 x8_1) ∧ Aside0 (Below w.heap.size w w'))
  case atStart => exact ⟨(([] : List (S193))), (0), (by first | rfl | (simp; done) | (simp [*]; done) | (simp [isEmpty_bne]; done)), H', ⟨Nat.le_refl _⟩, ⟨by first | exact Kd.R_nil _ _ _ _ _ | exact Kd.N_nil _ _ _ _ _ | exact Kd.V_nil _ _ _ _ _ | exact Kd.Q_nil _ _ _ _ _ | exact Kd.S_nil _ _ _ _ _⟩, ⟨by repeat (first | (with_reducible first | exact HB.out | apply below_alloc | apply pw_below_drewN | apply below_drew1) | exact HB.out)⟩⟩
  case round =>
    clear H'
    try clear c1
    try clear c2
    try clear p2
    obtain ⟨x8_1, x9_1, rfl, HA, HK1, HO_8, HB⟩ := hrel
    cases gk with
    | zero => exact absurd HA.out (by simp [glossatorref4_ComposeEdits.l0])
    | succ k1 =>
      have H := HA.out
      clear HA
      simp only [glossatorref4_ComposeEdits.l0] at H
      by_cases c4 : x9_1 < (a0.size : Int)
      · rw [if_pos c4] at H
        have c4b0 : decide (x9_1 < (a0.size : Int)) = true := decide_eq_true c4
        clear c4
        by_cases c5 : 0 ≤ x9_1
        · rw [if_pos c5] at H
          have c5b0 : decide (0 ≤ x9_1) = true := decide_eq_true c5
          clear c5
          by_cases c7 : x8_1.length < 8796093022208
          · rw [if_pos c7] at H
            have LMc7 := Aside0.mk c7
            clear c7
            obtain ⟨y216, hy216⟩ : ∃ y_ : List (S193), y_ = (x8_1 ++ [(⟨bt a0 x9_1, x9_1⟩ : S193)]) := ⟨_, rfl⟩
            replace H : (glossatorref4_ComposeEdits.l0 k1 a0 l1 l2 y216 (wrap64 (x9_1 + 1))) = some (r1, r2) := by first | (rw [hy216]; with_reducible exact H) | (have H2_ := (Option.bind_some _ _).symm.trans H; rw [hy216]; with_reducible exact H2_) | (have H2_ := (Option.bind_some _ _).symm.trans H; with_reducible exact H2_) | with_reducible exact H | (rw [hy216]; exact H) | exact H
            have Ny216 := Aside0.mk hy216
            clear hy216
            have H' := Aside0.mk H
            clear H
            have p6 : 0 ≤ (x9_1 : Int) := of_decide_eq_true (by first | (with_reducible assumption) | assumption)
            have q6 : x9_1 < (a0.size : Int) := of_decide_eq_true (by first | (with_reducible assumption) | assumption)
            have hx6 := bt_at a0 x9_1
            replace p6 := eq_true p6
            replace q6 := eq_true q6
            go_wp2_with (first | ((with_reducible refine gate_builtin (b := .append) (xs := #[.tmp 16, .tmp 22]) rfl ?_); at_builtin; refine Kd.R_append k193 (w0 := w) w.heap.size rfl (.tmp 16) (.tmp 22) 118 193 (.agg #[(.int .u8 0), (.int .i64 0)]) 16 rfl Try.underlying118 info193 rfl (by decide) (by omega) u8 x8_1 (⟨bt a0 x9_1, x9_1⟩ : S193) [.int .u8 (bt a0 x9_1), .int .i64 x9_1] (fun _ => True) (fun _ => False) rfl rfl ?aP (fun _ hk => hk.elim) ?aF ?aO ?aB ?aS ?aL ?_; (case aP => exact k193_mkM _ _ _ (⟨bt a0 x9_1, x9_1⟩ : S193)); (case aB => exact (by repeat (first | (with_reducible first | exact HB.out | apply below_alloc | apply pw_below_drewN | apply below_drew1) | exact HB.out))); (case aF => exact (fun _ _ => trivial)); (case aO => exact (by (with_reducible repeat (first | apply Kd.R_alloc | apply Kd.R_drewN | apply Kd.R_drew)); exact HO_8.out)); (case aS => exact (below_size (by repeat (first | (with_reducible first | exact HB.out | apply below_alloc | apply pw_below_drewN | apply below_drew1) | exact HB.out)))); (case aL => have := LMc7.out; omega); intro v217 w8 ho hb hg hat; rw [← Ny216.out] at ho; have n0_ := Aside0.mk (hb); have n1_ := Aside0.mk (ho); clear HB; clear HO_8; have HB := n0_; have HO218 := n1_; clear n0_ n1_; clear ho hb hg hat))
            go_roundg k1
            case measure => have := HK1.out; omega
            case rel => exact ⟨(y216), (wrap64 (x9_1 + 1)), (by first | rfl | (simp; done) | (simp [*]; done) | (simp [isEmpty_bne]; done)), H', ⟨by have := HK1.out; omega⟩, ⟨by (with_reducible repeat (first | apply Kd.R_alloc | apply Kd.R_drewN | apply Kd.R_drew)); exact HO218.out⟩, ⟨by repeat (first | (with_reducible first | exact HB.out | apply below_alloc | apply pw_below_drewN | apply below_drew1) | exact HB.out)⟩⟩
          · rw [if_neg c7] at H
            exact absurd H (by simp)
        · rw [if_neg c5] at H
          exact absurd H (by simp)
      · rw [if_neg c4] at H
        have c4b0 : decide (x9_1 < (a0.size : Int)) = false := decide_eq_false c4
        clear c4
        replace H := Option.bind_eq_some_iff.mp H
        obtain ⟨t219, A90, H⟩ := H
        replace H : ((glossatorref4_applyToTrace.f k1 t219 l2).bind fun t222 => ((glossatorref4_CanonicalEdits.f k1 (a0.size : Int) t222).bind fun bt225 => (some (bt225.1, bt225.2)))) = some (r1, r2) := H
        have A9 := Aside0.mk A90
        clear A90
        replace H := Option.bind_eq_some_iff.mp H
        obtain ⟨t222, A100, H⟩ := H
        replace H : ((glossatorref4_CanonicalEdits.f k1 (a0.size : Int) t222).bind fun bt225 => (some (bt225.1, bt225.2))) = some (r1, r2) := H
        have A10 := Aside0.mk A100
        clear A100
        replace H := Option.bind_eq_some_iff.mp H
        obtain ⟨⟨t225, t226⟩, A110, H⟩ := H
        replace H : (some (t225, t226)) = some (r1, r2) := H
        have A11 := Aside0.mk A110
        clear A110
        simp only [Option.some.injEq, Prod.mk.injEq] at H
        obtain ⟨rfl, rfl⟩ := H
        obtain ⟨Ao12, co12, eo12⟩ := Kd.R_slice HO_8.out
        subst eo12
        go_wp2_with (first | ((with_reducible refine gate_callee (f := 118) rfl ?_); refine goesL_ (some 28) rfl rfl Try.func118 (by kernel_rfl) rfl #[.slice Ao12 x8_1.length co12, .slice A1 l1.length c1] rfl (by (try simp only [List.map_toArray, List.map_cons, List.map_nil]); first | done | rfl | (simp only [List.length_drop, List.length_take]; rfl)) ?_; (with_reducible refine (glossatorref4_applyToTrace.calls k1 _ _ x8_1 _ _ l1 t219 _ ?side1 ?side2 ?side3 ?side4 A9.out).mono ?_); (case side1 => repeat (first | exact (Kd.R_reads' HO_8.out).2.2 | (with_reducible refine Kd.C_alloc ?_ _) | (with_reducible refine Kd.C_drewN ?_ _) | (with_reducible refine Kd.C_drew ?_))); (case side2 => exact (Kd.R_reads' HO_8.out).2.1); (case side3 => repeat (first | exact (Kd.C_below HR1.out HB.out) | (with_reducible refine Kd.C_alloc ?_ _) | (with_reducible refine Kd.C_drewN ?_ _) | (with_reducible refine Kd.C_drew ?_))); (case side4 => exact HC1.out); rintro e w13 ⟨v220, rfl, ho0, hb⟩; refine ⟨_, rfl, ?_⟩; have n0_ := Aside0.mk (Kd.R_elder' (by (with_reducible repeat (first | apply Kd.R_alloc | apply Kd.R_drewN | apply Kd.R_drew)); exact HO_8.out) (Kd.R_base ho0) hb); have n1_ := Aside0.mk (Kd.R_lower (Kd.R_new' ho0 (Kd.R_lt (by (with_reducible repeat (first | apply Kd.R_alloc | apply Kd.R_drewN | apply Kd.R_drew)); exact HO_8.out))) (below_size (by repeat (first | (with_reducible first | exact HB.out | apply below_alloc | apply pw_below_drewN | apply below_drew1) | exact HB.out)))); have n2_ := Aside0.mk (below_step (by repeat (first | (with_reducible first | exact HB.out | apply below_alloc | apply pw_below_drewN | apply below_drew1) | exact HB.out)) hb); clear HO_8; clear HB; have HO_8 := n0_; have HO221 := n1_; have HB := n2_; clear n0_ n1_ n2_; (try clear hb); (try clear hb2); (try clear hk); (try clear hi); (try clear ho0); obtain ⟨Ao14, co14, eo14⟩ := Kd.R_slice HO221.out; subst eo14) | ((with_reducible refine gate_callee (f := 118) rfl ?_); refine goesL_ (some 30) rfl rfl Try.func118 (by kernel_rfl) rfl #[.slice Ao14 t219.length co14, .slice A2 l2.length c2] rfl (by (try simp only [List.map_toArray, List.map_cons, List.map_nil]); first | done | rfl | (simp only [List.length_drop, List.length_take]; rfl)) ?_; (with_reducible refine (glossatorref4_applyToTrace.calls k1 _ _ t219 _ _ l2 t222 _ ?side1 ?side2 ?side3 ?side4 A10.out).mono ?_); (case side1 => repeat (first | exact (Kd.R_reads' HO221.out).2.2 | (with_reducible refine Kd.C_alloc ?_ _) | (with_reducible refine Kd.C_drewN ?_ _) | (with_reducible refine Kd.C_drew ?_))); (case side2 => exact (Kd.R_reads' HO221.out).2.1); (case side3 => repeat (first | exact (Kd.C_below HR2.out HB.out) | (with_reducible refine Kd.C_alloc ?_ _) | (with_reducible refine Kd.C_drewN ?_ _) | (with_reducible refine Kd.C_drew ?_))); (case side4 => exact HC2.out); rintro e w15 ⟨v223, rfl, ho0, hb⟩; refine ⟨_, rfl, ?_⟩; have n0_ := Aside0.mk (Kd.R_elder' (by (with_reducible repeat (first | apply Kd.R_alloc | apply Kd.R_drewN | apply Kd.R_drew)); exact HO_8.out) (Kd.R_base ho0) hb); have n1_ := Aside0.mk (Kd.R_elder' (by (with_reducible repeat (first | apply Kd.R_alloc | apply Kd.R_drewN | apply Kd.R_drew)); exact HO221.out) (Kd.R_base ho0) hb); have n2_ := Aside0.mk (Kd.R_lower (Kd.R_new' (Kd.R_new' ho0 (Kd.R_lt (by (with_reducible repeat (first | apply Kd.R_alloc | apply Kd.R_drewN | apply Kd.R_drew)); exact HO_8.out))) (Kd.R_lt (by (with_reducible repeat (first | apply Kd.R_alloc | apply Kd.R_drewN | apply Kd.R_drew)); exact HO221.out))) (below_size (by repeat (first | (with_reducible first | exact HB.out | apply below_alloc | apply pw_below_drewN | apply below_drew1) | exact HB.out)))); have n3_ := Aside0.mk (below_step (by repeat (first | (with_reducible first | exact HB.out | apply below_alloc | apply pw_below_drewN | apply below_drew1) | exact HB.out)) hb); clear HO_8; clear HO221; clear HB; have HO_8 := n0_; have HO221 := n1_; have HO224 := n2_; have HB := n3_; clear n0_ n1_ n2_ n3_; (try clear hb); (try clear hb2); (try clear hk); (try clear hi); (try clear ho0); obtain ⟨Ao16, co16, eo16⟩ := Kd.R_slice HO224.out; subst eo16) | ((with_reducible refine gate_callee (f := 74) rfl ?_); refine goesL_ (some 31) rfl rfl Try.func74 (by kernel_rfl) rfl #[.int .i64 (a0.size : Int), .slice Ao16 t222.length co16] rfl (by (try simp only [List.map_toArray, List.map_cons, List.map_nil]); first | done | rfl | (simp only [List.length_drop, List.length_take]; rfl)) ?_; (with_reducible refine (glossatorref4_CanonicalEdits.calls k1 (a0.size : Int) _ _ t222 t225 t226 _ ?side1 ?side2 A11.out).mono ?_); (case side1 => repeat (first | exact (Kd.R_reads' HO224.out).2.2 | (with_reducible refine Kd.C_alloc ?_ _) | (with_reducible refine Kd.C_drewN ?_ _) | (with_reducible refine Kd.C_drew ?_))); (case side2 => exact (Kd.R_reads' HO224.out).2.1); rintro e w17 ⟨v227, rfl, ho0, hb⟩; refine ⟨_, rfl, ?_⟩; have n0_ := Aside0.mk (Kd.R_below (by (with_reducible repeat (first | apply Kd.R_alloc | apply Kd.R_drewN | apply Kd.R_drew)); exact HO_8.out) hb); have n1_ := Aside0.mk (Kd.R_below (by (with_reducible repeat (first | apply Kd.R_alloc | apply Kd.R_drewN | apply Kd.R_drew)); exact HO221.out) hb); have n2_ := Aside0.mk (Kd.R_below (by (with_reducible repeat (first | apply Kd.R_alloc | apply Kd.R_drewN | apply Kd.R_drew)); exact HO224.out) hb); have n3_ := Aside0.mk (Kd.R_lower ho0 (below_size (by repeat (first | (with_reducible first | exact HB.out | apply below_alloc | apply pw_below_drewN | apply below_drew1) | exact HB.out)))); have n4_ := Aside0.mk (below_step (by repeat (first | (with_reducible first | exact HB.out | apply below_alloc | apply pw_below_drewN | apply below_drew1) | exact HB.out)) hb); clear HO_8; clear HO221; clear HO224; clear HB; have HO_8 := n0_; have HO221 := n1_; have HO224 := n2_; have HO228 := n3_; have HB := n4_; clear n0_ n1_ n2_ n3_ n4_; (try clear hb); (try clear hb2); (try clear hk); (try clear hi); (try clear ho0)))
        go_ret2
        exact ⟨_, by first | rfl | (simp [errW_none, errW_some] <;> rfl) | (simp [*, errW_none, errW_some] <;> rfl), by (with_reducible repeat (first | apply Kd.R_alloc | apply Kd.R_drewN | apply Kd.R_drew)); exact HO228.out, by repeat (first | (with_reducible first | exact HB.out | apply below_alloc | apply pw_below_drewN | apply below_drew1) | exact HB.out)⟩

/-! ### glossatorlaw4_TexteditComposeEqualsReference: function 12 -/
mutual
def glossatorlaw4_TexteditComposeEqualsReference.j0 : Nat → ByteArray → List (S137) → List (S137) → Option (Bool)
  | 0, _, _, _ => none
  | k + 1, x0, x1, x2 => (textedit_Compose.f k x0 x1 x2).bind fun bt230 => ((glossatorref4_ValidateEdits.f k x0 x1).bind fun t234 => (if t234 = 0 then ((glossatorref4_ApplyEdits.f k x0 x1).bind fun t235 => ((glossatorref4_ValidateEdits.f k t235 x2).bind fun t236 => (glossatorlaw4_TexteditComposeEqualsReference.j1 k x0 x1 x2 bt230.1 bt230.2 t236))) else (glossatorlaw4_TexteditComposeEqualsReference.j1 k x0 x1 x2 bt230.1 bt230.2 t234)))
def glossatorlaw4_TexteditComposeEqualsReference.j1 : Nat → ByteArray → List (S137) → List (S137) → List (S137) → Int → Int → Option (Bool)
  | 0, _, _, _, _, _, _ => none
  | k + 1, x0, x1, x2, x7, x8, x9 => if x9 = 0 then ((glossatorref4_ComposeEdits.f k x0 x1 x2).bind fun bt237 => (if bt237.2 = true then ((glossatorref4_EqualEdits.f k x7 bt237.1).bind fun t241 => (if t241 = true then (some (x8 == x9)) else (some false))) else ((glossatorref4_EqualEdits.f k x7 bt237.1).bind fun t242 => (if t242 = true then (some (x8 == 2)) else (some false))))) else ((glossatorref4_EqualEdits.f k x7 ([] : List (S137))).bind fun t243 => (if t243 = true then (some (x8 == x9)) else (some false)))
end
def glossatorlaw4_TexteditComposeEqualsReference.f (k : Nat) (a0 : ByteArray) (l1 : List (S137)) (l2 : List (S137)) : Option (Bool) := (glossatorlaw4_texteditExamples.f k).bind fun t229 => (if t229 = true then (if (a0.size : Int) ≤ 2000 then (if 0 ≤ (mn (a0.size : Int) 300) then (if (mn (a0.size : Int) 300) ≤ (a0.size : Int) then (glossatorlaw4_TexteditComposeEqualsReference.j0 k (a0.extract 0 ((mn (a0.size : Int) 300) : Int).toNat) l1 l2) else (none)) else (none)) else (glossatorlaw4_TexteditComposeEqualsReference.j0 k a0 l1 l2)) else (some false))
theorem glossatorlaw4_TexteditComposeEqualsReference.mono_l : ∀ k, (∀ y0 y1 y2, LeO (glossatorlaw4_TexteditComposeEqualsReference.j0 k y0 y1 y2) (glossatorlaw4_TexteditComposeEqualsReference.j0 (k + 1) y0 y1 y2)) ∧ (∀ y0 y1 y2 y3 y4 y5, LeO (glossatorlaw4_TexteditComposeEqualsReference.j1 k y0 y1 y2 y3 y4 y5) (glossatorlaw4_TexteditComposeEqualsReference.j1 (k + 1) y0 y1 y2 y3 y4 y5))
  | 0 => ⟨fun _ _ _ r h => by simp [glossatorlaw4_TexteditComposeEqualsReference.j0] at h, fun _ _ _ _ _ _ r h => by simp [glossatorlaw4_TexteditComposeEqualsReference.j1] at h⟩
  | k + 1 => by
    obtain ⟨ih0, ih1⟩ := glossatorlaw4_TexteditComposeEqualsReference.mono_l k
    refine ⟨?_, ?_⟩
    · intro y0 y1 y2
      unfold glossatorlaw4_TexteditComposeEqualsReference.j0
      repeat' first
      | (with_reducible exact ih0 _ _ _)
      | (with_reducible exact ih1 _ _ _ _ _ _)
      | (with_reducible exact glossatorlaw4_texteditExamples.mono _)
      | (with_reducible exact glossatorref4_ApplyEdits.mono _ _ _)
      | (with_reducible exact glossatorref4_ComposeEdits.mono _ _ _ _)
      | (with_reducible exact glossatorref4_EqualEdits.mono _ _ _)
      | (with_reducible exact glossatorref4_ValidateEdits.mono _ _ _)
      | (with_reducible exact textedit_Compose.mono _ _ _ _)
      | (with_reducible exact LeO.refl _)
      | (with_reducible exact LeO.none _)
      | (with_reducible refine LeO.ite ?_ ?_)
      | (with_reducible refine LeO.bind ?_ (fun _ => ?_))
      | exact ih0 _ _ _
      | exact ih1 _ _ _ _ _ _
      | exact glossatorlaw4_texteditExamples.mono _
      | exact glossatorref4_ApplyEdits.mono _ _ _
      | exact glossatorref4_ComposeEdits.mono _ _ _ _
      | exact glossatorref4_EqualEdits.mono _ _ _
      | exact glossatorref4_ValidateEdits.mono _ _ _
      | exact textedit_Compose.mono _ _ _ _
      | exact LeO.none _
      | refine LeO.ite ?_ ?_
      | refine LeO.bind ?_ (fun _ => ?_)
    · intro y0 y1 y2 y3 y4 y5
      unfold glossatorlaw4_TexteditComposeEqualsReference.j1
      repeat' first
      | (with_reducible exact ih0 _ _ _)
      | (with_reducible exact ih1 _ _ _ _ _ _)
      | (with_reducible exact glossatorlaw4_texteditExamples.mono _)
      | (with_reducible exact glossatorref4_ApplyEdits.mono _ _ _)
      | (with_reducible exact glossatorref4_ComposeEdits.mono _ _ _ _)
      | (with_reducible exact glossatorref4_EqualEdits.mono _ _ _)
      | (with_reducible exact glossatorref4_ValidateEdits.mono _ _ _)
      | (with_reducible exact textedit_Compose.mono _ _ _ _)
      | (with_reducible exact LeO.refl _)
      | (with_reducible exact LeO.none _)
      | (with_reducible refine LeO.ite ?_ ?_)
      | (with_reducible refine LeO.bind ?_ (fun _ => ?_))
      | exact ih0 _ _ _
      | exact ih1 _ _ _ _ _ _
      | exact glossatorlaw4_texteditExamples.mono _
      | exact glossatorref4_ApplyEdits.mono _ _ _
      | exact glossatorref4_ComposeEdits.mono _ _ _ _
      | exact glossatorref4_EqualEdits.mono _ _ _
      | exact glossatorref4_ValidateEdits.mono _ _ _
      | exact textedit_Compose.mono _ _ _ _
      | exact LeO.none _
      | refine LeO.ite ?_ ?_
      | refine LeO.bind ?_ (fun _ => ?_)
theorem glossatorlaw4_TexteditComposeEqualsReference.mono : ∀ a0 a1 a2 k, LeO (glossatorlaw4_TexteditComposeEqualsReference.f k a0 a1 a2) (glossatorlaw4_TexteditComposeEqualsReference.f (k + 1) a0 a1 a2) := by
  intro a0 a1 a2 k
  obtain ⟨ih0, ih1⟩ := glossatorlaw4_TexteditComposeEqualsReference.mono_l k
  unfold glossatorlaw4_TexteditComposeEqualsReference.f
  repeat' first
      | (with_reducible exact ih0 _ _ _)
      | (with_reducible exact ih1 _ _ _ _ _ _)
      | (with_reducible exact glossatorlaw4_texteditExamples.mono _)
      | (with_reducible exact glossatorref4_ApplyEdits.mono _ _ _)
      | (with_reducible exact glossatorref4_ComposeEdits.mono _ _ _ _)
      | (with_reducible exact glossatorref4_EqualEdits.mono _ _ _)
      | (with_reducible exact glossatorref4_ValidateEdits.mono _ _ _)
      | (with_reducible exact textedit_Compose.mono _ _ _ _)
      | (with_reducible exact LeO.refl _)
      | (with_reducible exact LeO.none _)
      | (with_reducible refine LeO.ite ?_ ?_)
      | (with_reducible refine LeO.bind ?_ (fun _ => ?_))
      | exact ih0 _ _ _
      | exact ih1 _ _ _ _ _ _
      | exact glossatorlaw4_texteditExamples.mono _
      | exact glossatorref4_ApplyEdits.mono _ _ _
      | exact glossatorref4_ComposeEdits.mono _ _ _ _
      | exact glossatorref4_EqualEdits.mono _ _ _
      | exact glossatorref4_ValidateEdits.mono _ _ _
      | exact textedit_Compose.mono _ _ _ _
      | exact LeO.none _
      | refine LeO.ite ?_ ?_
      | refine LeO.bind ?_ (fun _ => ?_)
set_option maxHeartbeats 8000000 in
set_option maxRecDepth 100000 in
theorem glossatorlaw4_TexteditComposeEqualsReference.calls (k : Nat) (a0 : ByteArray) (A1 : Option Addr) (c1 : Nat) (l1 : List (S137)) (A2 : Option Addr) (c2 : Nat) (l2 : List (S137)) (r : Bool) (w : World) (hr1 : Kd.C k137 w A1 l1.length l1) (hc1 : l1.length ≤ c1) (hr2 : Kd.C k137 w A2 l2.length l2) (hc2 : l2.length ≤ c2) (h : glossatorlaw4_TexteditComposeEqualsReference.f k a0 l1 l2 = some r) :
    Calls Try.prog 12 #[.string a0, .slice A1 l1.length c1, .slice A2 l2.length c2] w fun e w' => e = .returned (.bool r) ∧ Below w.heap.size w w' := by
  have HR1 := Aside0.mk hr1
  have HC1 := Aside0.mk hc1
  clear hr1 hc1
  have HR2 := Aside0.mk hr2
  have HC2 := Aside0.mk hc2
  clear hr2 hc2
  have HB := Aside0.mk (Below.refl w.heap.size w)
  have H : ((glossatorlaw4_texteditExamples.f k).bind fun t229 => (if t229 = true then (if (a0.size : Int) ≤ 2000 then (if 0 ≤ (mn (a0.size : Int) 300) then (if (mn (a0.size : Int) 300) ≤ (a0.size : Int) then (glossatorlaw4_TexteditComposeEqualsReference.j0 k (a0.extract 0 ((mn (a0.size : Int) 300) : Int).toNat) l1 l2) else (none)) else (none)) else (glossatorlaw4_TexteditComposeEqualsReference.j0 k a0 l1 l2)) else (some false))) = some r := h
  clear h
  replace H := Option.bind_eq_some_iff.mp H
  obtain ⟨t229, A40, H⟩ := H
  replace H : (if t229 = true then (if (a0.size : Int) ≤ 2000 then (if 0 ≤ (mn (a0.size : Int) 300) then (if (mn (a0.size : Int) 300) ≤ (a0.size : Int) then (glossatorlaw4_TexteditComposeEqualsReference.j0 k (a0.extract 0 ((mn (a0.size : Int) 300) : Int).toNat) l1 l2) else (none)) else (none)) else (glossatorlaw4_TexteditComposeEqualsReference.j0 k a0 l1 l2)) else (some false)) = some r := H
  have A4 := Aside0.mk A40
  clear A40
  by_cases c5 : t229 = true
  · subst c5
    have H1 : (if (a0.size : Int) ≤ 2000 then (if 0 ≤ (mn (a0.size : Int) 300) then (if (mn (a0.size : Int) 300) ≤ (a0.size : Int) then (glossatorlaw4_TexteditComposeEqualsReference.j0 k (a0.extract 0 ((mn (a0.size : Int) 300) : Int).toNat) l1 l2) else (none)) else (none)) else (glossatorlaw4_TexteditComposeEqualsReference.j0 k a0 l1 l2)) = some r := by rw [if_pos rfl] at H; exact H
    clear H
    have H := H1
    clear H1
    have HC6 := Aside0.mk H
    clear H
    go_enter Try.func12, Try.ntmps12
    go_upto_if 17 with (first | ((with_reducible refine gate_callee (f := 62) rfl ?_); refine goesL_ (some 13) rfl rfl Try.func62 (by kernel_rfl) rfl #[] rfl (by (try simp only [List.map_toArray, List.map_cons, List.map_nil]); first | done | rfl | (simp only [List.length_drop, List.length_take]; rfl)) ?_; (with_reducible refine (glossatorlaw4_texteditExamples.calls k  true _ A4.out).mono ?_); rintro e w7 ⟨rfl, hb⟩; refine ⟨_, rfl, ?_⟩; have n0_ := Aside0.mk (below_step (by repeat (first | (with_reducible first | exact HB.out | apply below_alloc | apply pw_below_drewN | apply below_drew1) | exact HB.out)) hb); clear HB; have HB := n0_; clear n0_; (try clear hb); (try clear hb2); (try clear hk); (try clear hi)))
    (try simp only [Act.put, List.setIfInBounds_toArray, List.set_cons_zero, List.set_cons_succ])
    go_cut [0] (fun v0 wc => ∃ (kq : Nat) (x0_5 : ByteArray), v0 = .string x0_5 ∧ Aside0 (glossatorlaw4_TexteditComposeEqualsReference.j0 kq x0_5 l1 l2 = some r) ∧ Aside0 (kq ≤ k) ∧ Aside0 (Below w.heap.size w wc))
    case first =>
      have H := HC6.out
      clear HC6
      by_cases c8 : (a0.size : Int) ≤ 2000
      · rw [if_pos c8] at H
        have c8b0 : decide ((a0.size : Int) ≤ 2000) = true := decide_eq_true c8
        have c8b1 : decide (a0.size ≤ 2000) = true := decide_eq_true (by omega)
        clear c8
        (first | rw [c8b0] | (simp only [i64_w, i32_w]; rw [c8b0]) | skip)
        obtain ⟨ji9, hji9⟩ : ∃ j_ : Int, (mn (a0.size : Int) 300) = j_ := ⟨_, rfl⟩
        replace H : (if 0 ≤ (ji9) then (if (ji9) ≤ (a0.size : Int) then (glossatorlaw4_TexteditComposeEqualsReference.j0 k (a0.extract 0 ((ji9) : Int).toNat) l1 l2) else (none)) else (none)) = some r := by first | (rw [hji9] at H; exact H) | (simp only [hji9] at H ⊢; exact H)
        (try (have hji9h : ji9 ≤ 300 := by (rw [← hji9]; unfold mn; (repeat' split) <;> omega)))
        (try (have hji9g : ji9 ≤ 64 := by omega))
        (try (have hji9l : 0 ≤ ji9 := by (rw [← hji9]; unfold mn; (repeat' split) <;> omega)))
        (try (have hji9m : 0 ≤ ji9 := by omega))
        have hji9_ : (if 300 < (a0.size : Int) then 300 else (a0.size : Int)) = ji9 := hji9
        by_cases c10 : 0 ≤ (ji9)
        · rw [if_pos c10] at H
          have c10b0 := eq_true c10
          have c10b1 : decide (0 ≤ (ji9)) = true := decide_eq_true c10
          clear c10
          by_cases c11 : (ji9) ≤ (a0.size : Int)
          · rw [if_pos c11] at H
            have c11b0 := eq_true c11
            have c11b1 : decide ((ji9) ≤ (a0.size : Int)) = true := decide_eq_true c11
            clear c11
            have H' := Aside0.mk H
            clear H
            go_wp2
            go_meet
            case rel => exact ⟨_, (a0.extract 0 ((ji9) : Int).toNat), (by first | rfl | (simp; done) | (simp only [← hji9] <;> (first | rfl | simp)) | (simp [*]; done)), H', ⟨by first | omega | exact Nat.le_refl _⟩, ⟨by repeat (first | (with_reducible first | exact HB.out | apply below_alloc | apply pw_below_drewN | apply below_drew1) | exact HB.out)⟩⟩
          · rw [if_neg c11] at H
            exact absurd H (by simp)
        · rw [if_neg c10] at H
          exact absurd H (by simp)
      · rw [if_neg c8] at H
        have c8b0 : decide ((a0.size : Int) ≤ 2000) = false := decide_eq_false c8
        have c8b1 : decide (a0.size ≤ 2000) = false := decide_eq_false (by omega)
        clear c8
        (first | rw [c8b0] | (simp only [i64_w, i32_w]; rw [c8b0]) | skip)
        have H' := Aside0.mk H
        clear H
        go_wp2
        go_meet
        case rel => exact ⟨_, (a0), (by first | rfl | (simp; done) | (simp [*]; done) | (simp [isEmpty_bne]; done)), H', ⟨by first | omega | exact Nat.le_refl _⟩, ⟨by repeat (first | (with_reducible first | exact HB.out | apply below_alloc | apply pw_below_drewN | apply below_drew1) | exact HB.out)⟩⟩
    case rest =>
      clear HC6
      try clear c1
      try clear c2
      try clear p2
      try clear c5
      try clear c6
      try clear c8
      try clear c8b0
      try clear c8b1
      try clear c10
      try clear c10b0
      try clear c10b1
      try clear c11
      try clear c11b0
      try clear c11b1
      obtain ⟨kq, x0_5, rfl, HA, HJ5, HB⟩ := hcut
      cases kq with
      | zero => exact absurd HA.out (by simp [glossatorlaw4_TexteditComposeEqualsReference.j0])
      | succ kj5 =>
        have H := HA.out
        clear HA
        simp only [glossatorlaw4_TexteditComposeEqualsReference.j0] at H
        replace H := Option.bind_eq_some_iff.mp H
        obtain ⟨⟨t230, t231⟩, A120, H⟩ := H
        replace H : ((glossatorref4_ValidateEdits.f kj5 x0_5 l1).bind fun t234 => (if t234 = 0 then ((glossatorref4_ApplyEdits.f kj5 x0_5 l1).bind fun t235 => ((glossatorref4_ValidateEdits.f kj5 t235 l2).bind fun t236 => (glossatorlaw4_TexteditComposeEqualsReference.j1 kj5 x0_5 l1 l2 t230 t231 t236))) else (glossatorlaw4_TexteditComposeEqualsReference.j1 kj5 x0_5 l1 l2 t230 t231 t234))) = some r := H
        have A12 := Aside0.mk A120
        clear A120
        replace H := Option.bind_eq_some_iff.mp H
        obtain ⟨t234, A130, H⟩ := H
        replace H : (if t234 = 0 then ((glossatorref4_ApplyEdits.f kj5 x0_5 l1).bind fun t235 => ((glossatorref4_ValidateEdits.f kj5 t235 l2).bind fun t236 => (glossatorlaw4_TexteditComposeEqualsReference.j1 kj5 x0_5 l1 l2 t230 t231 t236))) else (glossatorlaw4_TexteditComposeEqualsReference.j1 kj5 x0_5 l1 l2 t230 t231 t234)) = some r := H
        have A13 := Aside0.mk A130
        clear A130
        have HC14 := Aside0.mk H
        clear H
        go_upto_if 34 with (first | ((with_reducible refine gate_callee (f := 70) rfl ?_); refine goesL_ (some 27) rfl rfl Try.func70 (by kernel_rfl) rfl #[.string x0_5, .slice A1 l1.length c1, .slice A2 l2.length c2] rfl (by (try simp only [List.map_toArray, List.map_cons, List.map_nil]); first | done | rfl | (simp only [List.length_drop, List.length_take]; rfl)) ?_; (with_reducible refine (textedit_Compose.calls kj5 x0_5 _ _ l1 _ _ l2 t230 t231 _ ?side1 ?side2 ?side3 ?side4 A12.out).mono ?_); (case side1 => repeat (first | exact (Kd.C_below HR1.out HB.out) | (with_reducible refine Kd.C_alloc ?_ _) | (with_reducible refine Kd.C_drewN ?_ _) | (with_reducible refine Kd.C_drew ?_))); (case side2 => exact HC1.out); (case side3 => repeat (first | exact (Kd.C_below HR2.out HB.out) | (with_reducible refine Kd.C_alloc ?_ _) | (with_reducible refine Kd.C_drewN ?_ _) | (with_reducible refine Kd.C_drew ?_))); (case side4 => exact HC2.out); rintro e w15 ⟨v232, rfl, ho0, hb⟩; refine ⟨_, rfl, ?_⟩; have n0_ := Aside0.mk (Kd.R_lower ho0 (below_size (by repeat (first | (with_reducible first | exact HB.out | apply below_alloc | apply pw_below_drewN | apply below_drew1) | exact HB.out)))); have n1_ := Aside0.mk (below_step (by repeat (first | (with_reducible first | exact HB.out | apply below_alloc | apply pw_below_drewN | apply below_drew1) | exact HB.out)) hb); clear HB; have HO233 := n0_; have HB := n1_; clear n0_ n1_; (try clear hb); (try clear hb2); (try clear hk); (try clear hi); (try clear ho0)) | ((with_reducible refine gate_callee (f := 65) rfl ?_); refine goesL_ (some 32) rfl rfl Try.func65 (by kernel_rfl) rfl #[.string x0_5, .slice A1 l1.length c1] rfl (by (try simp only [List.map_toArray, List.map_cons, List.map_nil]); first | done | rfl | (simp only [List.length_drop, List.length_take]; rfl)) ?_; (with_reducible refine (glossatorref4_ValidateEdits.calls kj5 x0_5 _ _ l1 t234 _ ?side1 ?side2 A13.out).mono ?_); (case side1 => repeat (first | exact (Kd.C_below HR1.out HB.out) | (with_reducible refine Kd.C_alloc ?_ _) | (with_reducible refine Kd.C_drewN ?_ _) | (with_reducible refine Kd.C_drew ?_))); (case side2 => exact HC1.out); rintro e w16 ⟨rfl, hb⟩; refine ⟨_, rfl, ?_⟩; have n0_ := Aside0.mk (Kd.R_below (by (with_reducible repeat (first | apply Kd.R_alloc | apply Kd.R_drewN | apply Kd.R_drew)); exact HO233.out) hb); have n1_ := Aside0.mk (below_step (by repeat (first | (with_reducible first | exact HB.out | apply below_alloc | apply pw_below_drewN | apply below_drew1) | exact HB.out)) hb); clear HO233; clear HB; have HO233 := n0_; have HB := n1_; clear n0_ n1_; (try clear hb); (try clear hb2); (try clear hk); (try clear hi)))
        (try simp only [Act.put, List.setIfInBounds_toArray, List.set_cons_zero, List.set_cons_succ])
        go_cut [9] (fun v9 wc => ∃ (kq : Nat) (x9_13 : Int), v9 = .int .i64 x9_13 ∧ Aside0 (glossatorlaw4_TexteditComposeEqualsReference.j1 kq x0_5 l1 l2 t230 t231 x9_13 = some r) ∧ Aside0 (kq ≤ kj5) ∧ Aside0 (Kd.R k137 137 wc w.heap.size (fun _ => True) v232 t230) ∧ Aside0 (Below w.heap.size w wc))
        case first =>
          have H := HC14.out
          clear HC14
          by_cases c17 : t234 = 0
          · rw [if_pos c17] at H
            have c17b0 : (t234 == 0) = true := beq_iff_eq.mpr c17
            have c17b1 : (t234 != 0) = false := bne_eq_false_iff_eq.mpr c17
            clear c17
            (first | rw [c17b0] | (simp only [i64_w, i32_w]; rw [c17b0]) | skip)
            replace H := Option.bind_eq_some_iff.mp H
            obtain ⟨t235, A180, H⟩ := H
            replace H : ((glossatorref4_ValidateEdits.f kj5 t235 l2).bind fun t236 => (glossatorlaw4_TexteditComposeEqualsReference.j1 kj5 x0_5 l1 l2 t230 t231 t236)) = some r := H
            have A18 := Aside0.mk A180
            clear A180
            replace H := Option.bind_eq_some_iff.mp H
            obtain ⟨t236, A190, H⟩ := H
            replace H : (glossatorlaw4_TexteditComposeEqualsReference.j1 kj5 x0_5 l1 l2 t230 t231 t236) = some r := H
            have A19 := Aside0.mk A190
            clear A190
            have H' := Aside0.mk H
            clear H
            go_wp2_with (first | ((with_reducible refine gate_callee (f := 66) rfl ?_); refine goesL_ (some 37) rfl rfl Try.func66 (by kernel_rfl) rfl #[.string x0_5, .slice A1 l1.length c1] rfl (by (try simp only [List.map_toArray, List.map_cons, List.map_nil]); first | done | rfl | (simp only [List.length_drop, List.length_take]; rfl)) ?_; (with_reducible refine (glossatorref4_ApplyEdits.calls kj5 x0_5 _ _ l1 t235 _ ?side1 ?side2 A18.out).mono ?_); (case side1 => repeat (first | exact (Kd.C_below HR1.out HB.out) | (with_reducible refine Kd.C_alloc ?_ _) | (with_reducible refine Kd.C_drewN ?_ _) | (with_reducible refine Kd.C_drew ?_))); (case side2 => exact HC1.out); rintro e w' ⟨rfl, ⟨nd, rfl⟩⟩; refine ⟨_, rfl, ?_⟩) | ((with_reducible refine gate_callee (f := 65) rfl ?_); refine goesL_ (some 39) rfl rfl Try.func65 (by kernel_rfl) rfl #[.string t235, .slice A2 l2.length c2] rfl (by (try simp only [List.map_toArray, List.map_cons, List.map_nil]); first | done | rfl | (simp only [List.length_drop, List.length_take]; rfl)) ?_; (with_reducible refine (glossatorref4_ValidateEdits.calls kj5 t235 _ _ l2 t236 _ ?side1 ?side2 A19.out).mono ?_); (case side1 => repeat (first | exact (Kd.C_below HR2.out (by repeat (first | (with_reducible first | exact HB.out | apply below_alloc | apply pw_below_drewN | apply below_drew1) | exact HB.out))) | (with_reducible refine Kd.C_alloc ?_ _) | (with_reducible refine Kd.C_drewN ?_ _) | (with_reducible refine Kd.C_drew ?_))); (case side2 => exact HC2.out); rintro e w20 ⟨rfl, hb⟩; refine ⟨_, rfl, ?_⟩; have n0_ := Aside0.mk (Kd.R_below (by (with_reducible repeat (first | apply Kd.R_alloc | apply Kd.R_drewN | apply Kd.R_drew)); exact HO233.out) hb); have n1_ := Aside0.mk (below_step (by repeat (first | (with_reducible first | exact HB.out | apply below_alloc | apply pw_below_drewN | apply below_drew1) | exact HB.out)) hb); clear HO233; clear HB; have HO233 := n0_; have HB := n1_; clear n0_ n1_; (try clear hb); (try clear hb2); (try clear hk); (try clear hi)))
            go_meet
            case rel => exact ⟨_, (t236), (by first | rfl | (simp; done) | (simp [*]; done) | (simp [isEmpty_bne]; done)), H', ⟨by have := HJ5.out; first | omega | exact Nat.le_refl _⟩, ⟨by (with_reducible repeat (first | apply Kd.R_alloc | apply Kd.R_drewN | apply Kd.R_drew)); exact HO233.out⟩, ⟨by repeat (first | (with_reducible first | exact HB.out | apply below_alloc | apply pw_below_drewN | apply below_drew1) | exact HB.out)⟩⟩
          · rw [if_neg c17] at H
            have c17b0 : (t234 == 0) = false := beq_eq_false_iff_ne.mpr c17
            have c17b1 : (t234 != 0) = true := bne_iff_ne.mpr c17
            (first | rw [c17b0] | (simp only [i64_w, i32_w]; rw [c17b0]) | skip)
            have H' := Aside0.mk H
            clear H
            go_wp2
            go_meet
            case rel => exact ⟨_, (t234), (by first | rfl | (simp; done) | (simp [*]; done) | (simp [isEmpty_bne]; done)), H', ⟨by have := HJ5.out; first | omega | exact Nat.le_refl _⟩, ⟨by (with_reducible repeat (first | apply Kd.R_alloc | apply Kd.R_drewN | apply Kd.R_drew)); exact HO233.out⟩, ⟨by repeat (first | (with_reducible first | exact HB.out | apply below_alloc | apply pw_below_drewN | apply below_drew1) | exact HB.out)⟩⟩
        case rest =>
          clear HC14
          try clear c1
          try clear c2
          try clear p2
          try clear c5
          try clear c6
          try clear c7
          try clear c8
          try clear c8b0
          try clear c8b1
          try clear c10
          try clear c10b0
          try clear c10b1
          try clear c11
          try clear c11b0
          try clear c11b1
          try clear c12
          try clear c17
          try clear c17b0
          try clear c17b1
          try clear p2
          obtain ⟨kq, x9_13, rfl, HA, HJ13, HO_7, HB⟩ := hcut
          cases kq with
          | zero => exact absurd HA.out (by simp [glossatorlaw4_TexteditComposeEqualsReference.j1])
          | succ kj13 =>
            have H := HA.out
            clear HA
            simp only [glossatorlaw4_TexteditComposeEqualsReference.j1] at H
            by_cases c21 : x9_13 = 0
            · rw [if_pos c21] at H
              have c21b0 : (x9_13 == 0) = true := beq_iff_eq.mpr c21
              have c21b1 : (x9_13 != 0) = false := bne_eq_false_iff_eq.mpr c21
              clear c21
              replace H := Option.bind_eq_some_iff.mp H
              obtain ⟨⟨t237, t238⟩, A220, H⟩ := H
              replace H : (if t238 = true then ((glossatorref4_EqualEdits.f kj13 t230 t237).bind fun t241 => (if t241 = true then (some (t231 == x9_13)) else (some false))) else ((glossatorref4_EqualEdits.f kj13 t230 t237).bind fun t242 => (if t242 = true then (some (t231 == 2)) else (some false)))) = some r := H
              have A22 := Aside0.mk A220
              clear A220
              by_cases c23 : t238 = true
              · subst c23
                have H1 : ((glossatorref4_EqualEdits.f kj13 t230 t237).bind fun t241 => (if t241 = true then (some (t231 == x9_13)) else (some false))) = some r := by rw [if_pos rfl] at H; exact H
                clear H
                have H := H1
                clear H1
                replace H := Option.bind_eq_some_iff.mp H
                obtain ⟨t241, A240, H⟩ := H
                replace H : (if t241 = true then (some (t231 == x9_13)) else (some false)) = some r := H
                have A24 := Aside0.mk A240
                clear A240
                by_cases c25 : t241 = true
                · subst c25
                  have H1 : (some (t231 == x9_13)) = some r := by rw [if_pos rfl] at H; exact H
                  clear H
                  have H := H1
                  clear H1
                  obtain rfl := Option.some.inj H
                  go_wp2_with (first | ((with_reducible refine gate_callee (f := 71) rfl ?_); refine goesL_ (some 46) rfl rfl Try.func71 (by kernel_rfl) rfl #[.string x0_5, .slice A1 l1.length c1, .slice A2 l2.length c2] rfl (by (try simp only [List.map_toArray, List.map_cons, List.map_nil]); first | done | rfl | (simp only [List.length_drop, List.length_take]; rfl)) ?_; (with_reducible refine (glossatorref4_ComposeEdits.calls kj13 x0_5 _ _ l1 _ _ l2 t237 true _ ?side1 ?side2 ?side3 ?side4 A22.out).mono ?_); (case side1 => repeat (first | exact (Kd.C_below HR1.out HB.out) | (with_reducible refine Kd.C_alloc ?_ _) | (with_reducible refine Kd.C_drewN ?_ _) | (with_reducible refine Kd.C_drew ?_))); (case side2 => exact HC1.out); (case side3 => repeat (first | exact (Kd.C_below HR2.out HB.out) | (with_reducible refine Kd.C_alloc ?_ _) | (with_reducible refine Kd.C_drewN ?_ _) | (with_reducible refine Kd.C_drew ?_))); (case side4 => exact HC2.out); rintro e w26 ⟨v239, rfl, ho0, hb⟩; refine ⟨_, rfl, ?_⟩; have n0_ := Aside0.mk (Kd.R_elder' (by (with_reducible repeat (first | apply Kd.R_alloc | apply Kd.R_drewN | apply Kd.R_drew)); exact HO_7.out) (Kd.R_base ho0) hb); have n1_ := Aside0.mk (Kd.R_lower (Kd.R_new' ho0 (Kd.R_lt (by (with_reducible repeat (first | apply Kd.R_alloc | apply Kd.R_drewN | apply Kd.R_drew)); exact HO_7.out))) (below_size (by repeat (first | (with_reducible first | exact HB.out | apply below_alloc | apply pw_below_drewN | apply below_drew1) | exact HB.out)))); have n2_ := Aside0.mk (below_step (by repeat (first | (with_reducible first | exact HB.out | apply below_alloc | apply pw_below_drewN | apply below_drew1) | exact HB.out)) hb); clear HO_7; clear HB; have HO_7 := n0_; have HO240 := n1_; have HB := n2_; clear n0_ n1_ n2_; (try clear hb); (try clear hb2); (try clear hk); (try clear hi); (try clear ho0); obtain ⟨Ao27, co27, eo27⟩ := Kd.R_slice HO_7.out; subst eo27; obtain ⟨Ao28, co28, eo28⟩ := Kd.R_slice HO240.out; subst eo28) | ((with_reducible refine gate_callee (f := 69) rfl ?_); refine goesL_ (some 54) rfl rfl Try.func69 (by kernel_rfl) rfl #[.slice Ao27 t230.length co27, .slice Ao28 t237.length co28] rfl (by (try simp only [List.map_toArray, List.map_cons, List.map_nil]); first | done | rfl | (simp only [List.length_drop, List.length_take]; rfl)) ?_; (with_reducible refine (glossatorref4_EqualEdits.calls kj13 _ _ t230 _ _ t237 true _ ?side1 ?side2 ?side3 ?side4 A24.out).mono ?_); (case side1 => repeat (first | exact (Kd.R_reads' HO_7.out).2.2 | (with_reducible refine Kd.C_alloc ?_ _) | (with_reducible refine Kd.C_drewN ?_ _) | (with_reducible refine Kd.C_drew ?_))); (case side2 => exact (Kd.R_reads' HO_7.out).2.1); (case side3 => repeat (first | exact (Kd.R_reads' HO240.out).2.2 | (with_reducible refine Kd.C_alloc ?_ _) | (with_reducible refine Kd.C_drewN ?_ _) | (with_reducible refine Kd.C_drew ?_))); (case side4 => exact (Kd.R_reads' HO240.out).2.1); rintro e w' ⟨rfl, ⟨nd, rfl⟩⟩; refine ⟨_, rfl, ?_⟩))
                  go_ret
                  exact ⟨by first | rfl | (simp [errW_none, errW_some] <;> rfl) | (simp [*, errW_none, errW_some] <;> rfl), by repeat (first | (with_reducible first | exact HB.out | apply below_alloc | apply pw_below_drewN | apply below_drew1) | exact HB.out)⟩
                · replace c25 := Bool.eq_false_iff.mpr c25
                  subst c25
                  have H1 : (some false) = some r := by rw [if_neg (show ¬ (false = true) by decide)] at H; exact H
                  clear H
                  have H := H1
                  clear H1
                  obtain rfl := Option.some.inj H
                  go_wp2_with (first | ((with_reducible refine gate_callee (f := 71) rfl ?_); refine goesL_ (some 46) rfl rfl Try.func71 (by kernel_rfl) rfl #[.string x0_5, .slice A1 l1.length c1, .slice A2 l2.length c2] rfl (by (try simp only [List.map_toArray, List.map_cons, List.map_nil]); first | done | rfl | (simp only [List.length_drop, List.length_take]; rfl)) ?_; (with_reducible refine (glossatorref4_ComposeEdits.calls kj13 x0_5 _ _ l1 _ _ l2 t237 true _ ?side1 ?side2 ?side3 ?side4 A22.out).mono ?_); (case side1 => repeat (first | exact (Kd.C_below HR1.out HB.out) | (with_reducible refine Kd.C_alloc ?_ _) | (with_reducible refine Kd.C_drewN ?_ _) | (with_reducible refine Kd.C_drew ?_))); (case side2 => exact HC1.out); (case side3 => repeat (first | exact (Kd.C_below HR2.out HB.out) | (with_reducible refine Kd.C_alloc ?_ _) | (with_reducible refine Kd.C_drewN ?_ _) | (with_reducible refine Kd.C_drew ?_))); (case side4 => exact HC2.out); rintro e w29 ⟨v239, rfl, ho0, hb⟩; refine ⟨_, rfl, ?_⟩; have n0_ := Aside0.mk (Kd.R_elder' (by (with_reducible repeat (first | apply Kd.R_alloc | apply Kd.R_drewN | apply Kd.R_drew)); exact HO_7.out) (Kd.R_base ho0) hb); have n1_ := Aside0.mk (Kd.R_lower (Kd.R_new' ho0 (Kd.R_lt (by (with_reducible repeat (first | apply Kd.R_alloc | apply Kd.R_drewN | apply Kd.R_drew)); exact HO_7.out))) (below_size (by repeat (first | (with_reducible first | exact HB.out | apply below_alloc | apply pw_below_drewN | apply below_drew1) | exact HB.out)))); have n2_ := Aside0.mk (below_step (by repeat (first | (with_reducible first | exact HB.out | apply below_alloc | apply pw_below_drewN | apply below_drew1) | exact HB.out)) hb); clear HO_7; clear HB; have HO_7 := n0_; have HO240 := n1_; have HB := n2_; clear n0_ n1_ n2_; (try clear hb); (try clear hb2); (try clear hk); (try clear hi); (try clear ho0); obtain ⟨Ao30, co30, eo30⟩ := Kd.R_slice HO_7.out; subst eo30; obtain ⟨Ao31, co31, eo31⟩ := Kd.R_slice HO240.out; subst eo31) | ((with_reducible refine gate_callee (f := 69) rfl ?_); refine goesL_ (some 54) rfl rfl Try.func69 (by kernel_rfl) rfl #[.slice Ao30 t230.length co30, .slice Ao31 t237.length co31] rfl (by (try simp only [List.map_toArray, List.map_cons, List.map_nil]); first | done | rfl | (simp only [List.length_drop, List.length_take]; rfl)) ?_; (with_reducible refine (glossatorref4_EqualEdits.calls kj13 _ _ t230 _ _ t237 false _ ?side1 ?side2 ?side3 ?side4 A24.out).mono ?_); (case side1 => repeat (first | exact (Kd.R_reads' HO_7.out).2.2 | (with_reducible refine Kd.C_alloc ?_ _) | (with_reducible refine Kd.C_drewN ?_ _) | (with_reducible refine Kd.C_drew ?_))); (case side2 => exact (Kd.R_reads' HO_7.out).2.1); (case side3 => repeat (first | exact (Kd.R_reads' HO240.out).2.2 | (with_reducible refine Kd.C_alloc ?_ _) | (with_reducible refine Kd.C_drewN ?_ _) | (with_reducible refine Kd.C_drew ?_))); (case side4 => exact (Kd.R_reads' HO240.out).2.1); rintro e w' ⟨rfl, ⟨nd, rfl⟩⟩; refine ⟨_, rfl, ?_⟩))
                  go_ret
                  exact ⟨by first | rfl | (simp [errW_none, errW_some] <;> rfl) | (simp [*, errW_none, errW_some] <;> rfl), by repeat (first | (with_reducible first | exact HB.out | apply below_alloc | apply pw_below_drewN | apply below_drew1) | exact HB.out)⟩
              · replace c23 := Bool.eq_false_iff.mpr c23
                subst c23
                have H1 : ((glossatorref4_EqualEdits.f kj13 t230 t237).bind fun t242 => (if t242 = true then (some (t231 == 2)) else (some false))) = some r := by rw [if_neg (show ¬ (false = true) by decide)] at H; exact H
                clear H
                have H := H1
                clear H1
                replace H := Option.bind_eq_some_iff.mp H
                obtain ⟨t242, A320, H⟩ := H
                replace H : (if t242 = true then (some (t231 == 2)) else (some false)) = some r := H
                have A32 := Aside0.mk A320
                clear A320
                by_cases c33 : t242 = true
                · subst c33
                  have H1 : (some (t231 == 2)) = some r := by rw [if_pos rfl] at H; exact H
                  clear H
                  have H := H1
                  clear H1
                  obtain rfl := Option.some.inj H
                  go_wp2_with (first | ((with_reducible refine gate_callee (f := 71) rfl ?_); refine goesL_ (some 46) rfl rfl Try.func71 (by kernel_rfl) rfl #[.string x0_5, .slice A1 l1.length c1, .slice A2 l2.length c2] rfl (by (try simp only [List.map_toArray, List.map_cons, List.map_nil]); first | done | rfl | (simp only [List.length_drop, List.length_take]; rfl)) ?_; (with_reducible refine (glossatorref4_ComposeEdits.calls kj13 x0_5 _ _ l1 _ _ l2 t237 false _ ?side1 ?side2 ?side3 ?side4 A22.out).mono ?_); (case side1 => repeat (first | exact (Kd.C_below HR1.out HB.out) | (with_reducible refine Kd.C_alloc ?_ _) | (with_reducible refine Kd.C_drewN ?_ _) | (with_reducible refine Kd.C_drew ?_))); (case side2 => exact HC1.out); (case side3 => repeat (first | exact (Kd.C_below HR2.out HB.out) | (with_reducible refine Kd.C_alloc ?_ _) | (with_reducible refine Kd.C_drewN ?_ _) | (with_reducible refine Kd.C_drew ?_))); (case side4 => exact HC2.out); rintro e w34 ⟨v239, rfl, ho0, hb⟩; refine ⟨_, rfl, ?_⟩; have n0_ := Aside0.mk (Kd.R_elder' (by (with_reducible repeat (first | apply Kd.R_alloc | apply Kd.R_drewN | apply Kd.R_drew)); exact HO_7.out) (Kd.R_base ho0) hb); have n1_ := Aside0.mk (Kd.R_lower (Kd.R_new' ho0 (Kd.R_lt (by (with_reducible repeat (first | apply Kd.R_alloc | apply Kd.R_drewN | apply Kd.R_drew)); exact HO_7.out))) (below_size (by repeat (first | (with_reducible first | exact HB.out | apply below_alloc | apply pw_below_drewN | apply below_drew1) | exact HB.out)))); have n2_ := Aside0.mk (below_step (by repeat (first | (with_reducible first | exact HB.out | apply below_alloc | apply pw_below_drewN | apply below_drew1) | exact HB.out)) hb); clear HO_7; clear HB; have HO_7 := n0_; have HO240 := n1_; have HB := n2_; clear n0_ n1_ n2_; (try clear hb); (try clear hb2); (try clear hk); (try clear hi); (try clear ho0); obtain ⟨Ao35, co35, eo35⟩ := Kd.R_slice HO_7.out; subst eo35; obtain ⟨Ao36, co36, eo36⟩ := Kd.R_slice HO240.out; subst eo36) | ((with_reducible refine gate_callee (f := 69) rfl ?_); refine goesL_ (some 54) rfl rfl Try.func69 (by kernel_rfl) rfl #[.slice Ao35 t230.length co35, .slice Ao36 t237.length co36] rfl (by (try simp only [List.map_toArray, List.map_cons, List.map_nil]); first | done | rfl | (simp only [List.length_drop, List.length_take]; rfl)) ?_; (with_reducible refine (glossatorref4_EqualEdits.calls kj13 _ _ t230 _ _ t237 true _ ?side1 ?side2 ?side3 ?side4 A32.out).mono ?_); (case side1 => repeat (first | exact (Kd.R_reads' HO_7.out).2.2 | (with_reducible refine Kd.C_alloc ?_ _) | (with_reducible refine Kd.C_drewN ?_ _) | (with_reducible refine Kd.C_drew ?_))); (case side2 => exact (Kd.R_reads' HO_7.out).2.1); (case side3 => repeat (first | exact (Kd.R_reads' HO240.out).2.2 | (with_reducible refine Kd.C_alloc ?_ _) | (with_reducible refine Kd.C_drewN ?_ _) | (with_reducible refine Kd.C_drew ?_))); (case side4 => exact (Kd.R_reads' HO240.out).2.1); rintro e w' ⟨rfl, ⟨nd, rfl⟩⟩; refine ⟨_, rfl, ?_⟩))
                  go_ret
                  exact ⟨by first | rfl | (simp [errW_none, errW_some] <;> rfl) | (simp [*, errW_none, errW_some] <;> rfl), by repeat (first | (with_reducible first | exact HB.out | apply below_alloc | apply pw_below_drewN | apply below_drew1) | exact HB.out)⟩
                · replace c33 := Bool.eq_false_iff.mpr c33
                  subst c33
                  have H1 : (some false) = some r := by rw [if_neg (show ¬ (false = true) by decide)] at H; exact H
                  clear H
                  have H := H1
                  clear H1
                  obtain rfl := Option.some.inj H
                  go_wp2_with (first | ((with_reducible refine gate_callee (f := 71) rfl ?_); refine goesL_ (some 46) rfl rfl Try.func71 (by kernel_rfl) rfl #[.string x0_5, .slice A1 l1.length c1, .slice A2 l2.length c2] rfl (by (try simp only [List.map_toArray, List.map_cons, List.map_nil]); first | done | rfl | (simp only [List.length_drop, List.length_take]; rfl)) ?_; (with_reducible refine (glossatorref4_ComposeEdits.calls kj13 x0_5 _ _ l1 _ _ l2 t237 false _ ?side1 ?side2 ?side3 ?side4 A22.out).mono ?_); (case side1 => repeat (first | exact (Kd.C_below HR1.out HB.out) | (with_reducible refine Kd.C_alloc ?_ _) | (with_reducible refine Kd.C_drewN ?_ _) | (with_reducible refine Kd.C_drew ?_))); (case side2 => exact HC1.out); (case side3 => repeat (first | exact (Kd.C_below HR2.out HB.out) | (with_reducible refine Kd.C_alloc ?_ _) | (with_reducible refine Kd.C_drewN ?_ _) | (with_reducible refine Kd.C_drew ?_))); (case side4 => exact HC2.out); rintro e w37 ⟨v239, rfl, ho0, hb⟩; refine ⟨_, rfl, ?_⟩; have n0_ := Aside0.mk (Kd.R_elder' (by (with_reducible repeat (first | apply Kd.R_alloc | apply Kd.R_drewN | apply Kd.R_drew)); exact HO_7.out) (Kd.R_base ho0) hb); have n1_ := Aside0.mk (Kd.R_lower (Kd.R_new' ho0 (Kd.R_lt (by (with_reducible repeat (first | apply Kd.R_alloc | apply Kd.R_drewN | apply Kd.R_drew)); exact HO_7.out))) (below_size (by repeat (first | (with_reducible first | exact HB.out | apply below_alloc | apply pw_below_drewN | apply below_drew1) | exact HB.out)))); have n2_ := Aside0.mk (below_step (by repeat (first | (with_reducible first | exact HB.out | apply below_alloc | apply pw_below_drewN | apply below_drew1) | exact HB.out)) hb); clear HO_7; clear HB; have HO_7 := n0_; have HO240 := n1_; have HB := n2_; clear n0_ n1_ n2_; (try clear hb); (try clear hb2); (try clear hk); (try clear hi); (try clear ho0); obtain ⟨Ao38, co38, eo38⟩ := Kd.R_slice HO_7.out; subst eo38; obtain ⟨Ao39, co39, eo39⟩ := Kd.R_slice HO240.out; subst eo39) | ((with_reducible refine gate_callee (f := 69) rfl ?_); refine goesL_ (some 54) rfl rfl Try.func69 (by kernel_rfl) rfl #[.slice Ao38 t230.length co38, .slice Ao39 t237.length co39] rfl (by (try simp only [List.map_toArray, List.map_cons, List.map_nil]); first | done | rfl | (simp only [List.length_drop, List.length_take]; rfl)) ?_; (with_reducible refine (glossatorref4_EqualEdits.calls kj13 _ _ t230 _ _ t237 false _ ?side1 ?side2 ?side3 ?side4 A32.out).mono ?_); (case side1 => repeat (first | exact (Kd.R_reads' HO_7.out).2.2 | (with_reducible refine Kd.C_alloc ?_ _) | (with_reducible refine Kd.C_drewN ?_ _) | (with_reducible refine Kd.C_drew ?_))); (case side2 => exact (Kd.R_reads' HO_7.out).2.1); (case side3 => repeat (first | exact (Kd.R_reads' HO240.out).2.2 | (with_reducible refine Kd.C_alloc ?_ _) | (with_reducible refine Kd.C_drewN ?_ _) | (with_reducible refine Kd.C_drew ?_))); (case side4 => exact (Kd.R_reads' HO240.out).2.1); rintro e w' ⟨rfl, ⟨nd, rfl⟩⟩; refine ⟨_, rfl, ?_⟩))
                  go_ret
                  exact ⟨by first | rfl | (simp [errW_none, errW_some] <;> rfl) | (simp [*, errW_none, errW_some] <;> rfl), by repeat (first | (with_reducible first | exact HB.out | apply below_alloc | apply pw_below_drewN | apply below_drew1) | exact HB.out)⟩
            · rw [if_neg c21] at H
              have c21b0 : (x9_13 == 0) = false := beq_eq_false_iff_ne.mpr c21
              have c21b1 : (x9_13 != 0) = true := bne_iff_ne.mpr c21
              replace H := Option.bind_eq_some_iff.mp H
              obtain ⟨t243, A400, H⟩ := H
              replace H : (if t243 = true then (some (t231 == x9_13)) else (some false)) = some r := H
              have A40 := Aside0.mk A400
              clear A400
              by_cases c41 : t243 = true
              · subst c41
                have H1 : (some (t231 == x9_13)) = some r := by rw [if_pos rfl] at H; exact H
                clear H
                have H := H1
                clear H1
                obtain rfl := Option.some.inj H
                obtain ⟨Ao42, co42, eo42⟩ := Kd.R_slice HO_7.out
                subst eo42
                go_wp2_with (first | ((with_reducible refine gate_callee (f := 69) rfl ?_); refine goesL_ (some 54) rfl rfl Try.func69 (by kernel_rfl) rfl #[.slice Ao42 t230.length co42, .slice none 0 0] rfl (by (try simp only [List.map_toArray, List.map_cons, List.map_nil]); first | done | rfl | (simp only [List.length_drop, List.length_take]; rfl)) ?_; (refine (glossatorref4_EqualEdits.calls kj13 _ _ t230 _ _ ([] : List (S137)) true _ ?side1 ?side2 ?side3 ?side4 A40.out).mono ?_); (case side1 => repeat (first | exact (Kd.R_reads' HO_7.out).2.2 | (with_reducible refine Kd.C_alloc ?_ _) | (with_reducible refine Kd.C_drewN ?_ _) | (with_reducible refine Kd.C_drew ?_))); (case side2 => exact (Kd.R_reads' HO_7.out).2.1); (case side3 => exact Kd.C_nil _ _); (case side4 => exact Nat.le_refl _); rintro e w' ⟨rfl, ⟨nd, rfl⟩⟩; refine ⟨_, rfl, ?_⟩))
                go_ret
                exact ⟨by first | rfl | (simp [errW_none, errW_some] <;> rfl) | (simp [*, errW_none, errW_some] <;> rfl), by repeat (first | (with_reducible first | exact HB.out | apply below_alloc | apply pw_below_drewN | apply below_drew1) | exact HB.out)⟩
              · replace c41 := Bool.eq_false_iff.mpr c41
                subst c41
                have H1 : (some false) = some r := by rw [if_neg (show ¬ (false = true) by decide)] at H; exact H
                clear H
                have H := H1
                clear H1
                obtain rfl := Option.some.inj H
                obtain ⟨Ao43, co43, eo43⟩ := Kd.R_slice HO_7.out
                subst eo43
                go_wp2_with (first | ((with_reducible refine gate_callee (f := 69) rfl ?_); refine goesL_ (some 54) rfl rfl Try.func69 (by kernel_rfl) rfl #[.slice Ao43 t230.length co43, .slice none 0 0] rfl (by (try simp only [List.map_toArray, List.map_cons, List.map_nil]); first | done | rfl | (simp only [List.length_drop, List.length_take]; rfl)) ?_; (refine (glossatorref4_EqualEdits.calls kj13 _ _ t230 _ _ ([] : List (S137)) false _ ?side1 ?side2 ?side3 ?side4 A40.out).mono ?_); (case side1 => repeat (first | exact (Kd.R_reads' HO_7.out).2.2 | (with_reducible refine Kd.C_alloc ?_ _) | (with_reducible refine Kd.C_drewN ?_ _) | (with_reducible refine Kd.C_drew ?_))); (case side2 => exact (Kd.R_reads' HO_7.out).2.1); (case side3 => exact Kd.C_nil _ _); (case side4 => exact Nat.le_refl _); rintro e w' ⟨rfl, ⟨nd, rfl⟩⟩; refine ⟨_, rfl, ?_⟩))
                go_ret
                exact ⟨by first | rfl | (simp [errW_none, errW_some] <;> rfl) | (simp [*, errW_none, errW_some] <;> rfl), by repeat (first | (with_reducible first | exact HB.out | apply below_alloc | apply pw_below_drewN | apply below_drew1) | exact HB.out)⟩
  · replace c5 := Bool.eq_false_iff.mpr c5
    subst c5
    have H1 : (some false) = some r := by rw [if_neg (show ¬ (false = true) by decide)] at H; exact H
    clear H
    have H := H1
    clear H1
    obtain rfl := Option.some.inj H
    go_enter Try.func12, Try.ntmps12
    go_wp2_with (first | ((with_reducible refine gate_callee (f := 62) rfl ?_); refine goesL_ (some 13) rfl rfl Try.func62 (by kernel_rfl) rfl #[] rfl (by (try simp only [List.map_toArray, List.map_cons, List.map_nil]); first | done | rfl | (simp only [List.length_drop, List.length_take]; rfl)) ?_; (with_reducible refine (glossatorlaw4_texteditExamples.calls k  false _ A4.out).mono ?_); rintro e w44 ⟨rfl, hb⟩; refine ⟨_, rfl, ?_⟩; have n0_ := Aside0.mk (below_step (by repeat (first | (with_reducible first | exact HB.out | apply below_alloc | apply pw_below_drewN | apply below_drew1) | exact HB.out)) hb); clear HB; have HB := n0_; clear n0_; (try clear hb); (try clear hb2); (try clear hk); (try clear hi)))
    go_ret
    exact ⟨by first | rfl | (simp [errW_none, errW_some] <;> rfl) | (simp [*, errW_none, errW_some] <;> rfl), by repeat (first | (with_reducible first | exact HB.out | apply below_alloc | apply pw_below_drewN | apply below_drew1) | exact HB.out)⟩

end Go.Proofs.Ytbfedkmiekbcmaa.QTexteditComposeEqualsReference
