-- Written by gen.py (this repo's wip/), which runs the kit's print.py with more arms. Lean checks it.
import Derived.Test.YtofonbfpjfabbaaQDepgraphLevelsx0
import Derived.Test.YtofonbfpjfabbaaQDepgraphLevelsx2
import Derived.Test.YtofonbfpjfabbaaQDepgraphLevelsx6
import Derived.Test.YtofonbfpjfabbaaQDepgraphLevelsx9
import Derived.Test.YtofonbfpjfabbaaQDepgraphLevelsx10
import Derived.Test.YtofonbfpjfabbaaQDepgraphLevelsx11
namespace Go.Proofs.Ytofonbfpjfabbaa.QDepgraphLevels
open Go.RowKit Go.Proofs.YtofonbfpjfabbaaW.PrintWords Go.Proofs.YtofonbfpjfabbaaW.PrintLast Go.Proofs.YtofonbfpjfabbaaW.PrintMore
attribute [local go_sem] max2_int min2_int max_two min_two max_three min_three max_four min_four   -- for this text's walks alone
set_option linter.unusedVariables false
set_option linter.unusedSimpArgs false

private theorem isEmpty_bne {α : Type} [BEq α] (l : List α) : (l != []) = !l.isEmpty := by cases l <;> rfl

/-! ### glossatorlaw3_DepgraphLevels: function 5 -/
mutual
def glossatorlaw3_DepgraphLevels.j0 : Nat → List (List (S24)) → List (List (S24)) → Bool → Option (Bool)
  | 0, _, _, _ => none
  | k + 1, x3, x5, x41 => if x41 = true then (some false) else (glossatorlaw3_DepgraphLevels.l0 k x3 x5 (x5.length : Int) 0)
def glossatorlaw3_DepgraphLevels.l0 : Nat → List (List (S24)) → List (List (S24)) → Int → Int → Option (Bool)
  | 0, _, _, _, _ => none
  | k + 1, x3, x5, x43, x44 => if x44 < x43 then (if 0 ≤ x44 then (if x44 < (x3.length : Int) then (if x44 < (x5.length : Int) then ((api_QKey_8.f k (rd_L3 x3 x44) (rd_L3 x5 x44)).bind fun t228 => (if t228 = true then (glossatorlaw3_DepgraphLevels.l0 k x3 x5 x43 (wrap64 (x44 + 1))) else (some false))) else (none)) else (none)) else (none)) else ((glossatorlaw3_graphExample.f k).bind fun t229 => (some t229))
end
def glossatorlaw3_DepgraphLevels.f (k : Nat) (l0 : List (S44)) : Option (Bool) := (glossatorlaw3_graphExample.f k).bind fun t212 => (if t212 = true then (if 0 ≤ (mn (l0.length : Int) 14) then (if (mn (l0.length : Int) 14) ≤ (l0.length : Int) then ((some (l0.take ((mn (l0.length : Int) 14) : Int).toNat : List (S44))).bind fun y213 => ((depgraph_Levels.f y213).bind fun bt217 => ((glossatorref3_Cyclic.f k y213).bind fun t221 => (if t221 = true then ((glossatorlaw3_graphExample.f k).bind fun t222 => (if t222 = true then (if bt217.2 = 8 then (some ((bt217.1.length : Int) == 0)) else (some false)) else (some false))) else ((glossatorref3_Levels.f k y213).bind fun t223 => (if bt217.2 = 0 then (glossatorlaw3_DepgraphLevels.j0 k bt217.1 t223 ((bt217.1.length : Int) != (t223.length : Int))) else (glossatorlaw3_DepgraphLevels.j0 k bt217.1 t223 true))))))) else (none)) else (none)) else (some false))
theorem glossatorlaw3_DepgraphLevels.mono_l : ∀ k, (∀ y0 y1 y2, LeO (glossatorlaw3_DepgraphLevels.j0 k y0 y1 y2) (glossatorlaw3_DepgraphLevels.j0 (k + 1) y0 y1 y2)) ∧ (∀ y0 y1 y2 y3, LeO (glossatorlaw3_DepgraphLevels.l0 k y0 y1 y2 y3) (glossatorlaw3_DepgraphLevels.l0 (k + 1) y0 y1 y2 y3))
  | 0 => ⟨fun _ _ _ r h => by simp [glossatorlaw3_DepgraphLevels.j0] at h, fun _ _ _ _ r h => by simp [glossatorlaw3_DepgraphLevels.l0] at h⟩
  | k + 1 => by
    obtain ⟨ih0, ih1⟩ := glossatorlaw3_DepgraphLevels.mono_l k
    refine ⟨?_, ?_⟩
    · intro y0 y1 y2
      unfold glossatorlaw3_DepgraphLevels.j0
      repeat' first
      | (with_reducible exact ih0 _ _ _)
      | (with_reducible exact ih1 _ _ _ _)
      | (with_reducible exact api_QKey_8.mono _ _ _)
      | (with_reducible exact glossatorlaw3_graphExample.mono _)
      | (with_reducible exact glossatorref3_Cyclic.mono _ _)
      | (with_reducible exact glossatorref3_Levels.mono _ _)
      | (with_reducible exact LeO.refl _)
      | (with_reducible exact LeO.none _)
      | (with_reducible refine LeO.ite ?_ ?_)
      | (with_reducible refine LeO.bind ?_ (fun _ => ?_))
      | exact ih0 _ _ _
      | exact ih1 _ _ _ _
      | exact api_QKey_8.mono _ _ _
      | exact glossatorlaw3_graphExample.mono _
      | exact glossatorref3_Cyclic.mono _ _
      | exact glossatorref3_Levels.mono _ _
      | exact LeO.none _
      | refine LeO.ite ?_ ?_
      | refine LeO.bind ?_ (fun _ => ?_)
    · intro y0 y1 y2 y3
      unfold glossatorlaw3_DepgraphLevels.l0
      repeat' first
      | (with_reducible exact ih0 _ _ _)
      | (with_reducible exact ih1 _ _ _ _)
      | (with_reducible exact api_QKey_8.mono _ _ _)
      | (with_reducible exact glossatorlaw3_graphExample.mono _)
      | (with_reducible exact glossatorref3_Cyclic.mono _ _)
      | (with_reducible exact glossatorref3_Levels.mono _ _)
      | (with_reducible exact LeO.refl _)
      | (with_reducible exact LeO.none _)
      | (with_reducible refine LeO.ite ?_ ?_)
      | (with_reducible refine LeO.bind ?_ (fun _ => ?_))
      | exact ih0 _ _ _
      | exact ih1 _ _ _ _
      | exact api_QKey_8.mono _ _ _
      | exact glossatorlaw3_graphExample.mono _
      | exact glossatorref3_Cyclic.mono _ _
      | exact glossatorref3_Levels.mono _ _
      | exact LeO.none _
      | refine LeO.ite ?_ ?_
      | refine LeO.bind ?_ (fun _ => ?_)
theorem glossatorlaw3_DepgraphLevels.mono : ∀ a0 k, LeO (glossatorlaw3_DepgraphLevels.f k a0) (glossatorlaw3_DepgraphLevels.f (k + 1) a0) := by
  intro a0 k
  obtain ⟨ih0, ih1⟩ := glossatorlaw3_DepgraphLevels.mono_l k
  unfold glossatorlaw3_DepgraphLevels.f
  repeat' first
      | (with_reducible exact ih0 _ _ _)
      | (with_reducible exact ih1 _ _ _ _)
      | (with_reducible exact api_QKey_8.mono _ _ _)
      | (with_reducible exact glossatorlaw3_graphExample.mono _)
      | (with_reducible exact glossatorref3_Cyclic.mono _ _)
      | (with_reducible exact glossatorref3_Levels.mono _ _)
      | (with_reducible exact LeO.refl _)
      | (with_reducible exact LeO.none _)
      | (with_reducible refine LeO.ite ?_ ?_)
      | (with_reducible refine LeO.bind ?_ (fun _ => ?_))
      | exact ih0 _ _ _
      | exact ih1 _ _ _ _
      | exact api_QKey_8.mono _ _ _
      | exact glossatorlaw3_graphExample.mono _
      | exact glossatorref3_Cyclic.mono _ _
      | exact glossatorref3_Levels.mono _ _
      | exact LeO.none _
      | refine LeO.ite ?_ ?_
      | refine LeO.bind ?_ (fun _ => ?_)
def glossatorlaw3_DepgraphLevels.T13 : Bool × List (List Nat × List Nat) := (true, [([], []), ([], []), ([0, 1], [0, 1]), ([2], [2]), ([], []), ([], []), ([4, 5], [4, 5]), ([6], [6]), ([3, 7], [3, 7]), ([8], [8])])
def glossatorlaw3_DepgraphLevels.B13 : List Nat := [0, 0, 3, 7, 0, 0, 48, 112, 255, 511]
theorem glossatorlaw3_DepgraphLevels.tab13 : rtab .any (opsOf Try.f5 13) = glossatorlaw3_DepgraphLevels.T13 := by kernel_rfl
theorem glossatorlaw3_DepgraphLevels.bits13 : waitsOk glossatorlaw3_DepgraphLevels.T13.2 glossatorlaw3_DepgraphLevels.B13 = true := by kernel_rfl
set_option maxHeartbeats 8000000 in
set_option maxRecDepth 100000 in
theorem glossatorlaw3_DepgraphLevels.calls (k : Nat) (A0 : Option Addr) (c0 : Nat) (l0 : List (S44)) (r : Bool) (w : World) (hr0 : Kd.C k44 w A0 l0.length l0) (hc0 : l0.length ≤ c0) (h : glossatorlaw3_DepgraphLevels.f k l0 = some r) :
    Calls Try.prog 5 #[.slice A0 l0.length c0] w fun e w' => e = .returned (.bool r) ∧ Below w.heap.size w w' := by
  have HR0 := Aside0.mk hr0
  have HC0 := Aside0.mk hc0
  clear hr0 hc0
  have HB := Aside0.mk (Below.refl w.heap.size w)
  have H : ((glossatorlaw3_graphExample.f k).bind fun t212 => (if t212 = true then (if 0 ≤ (mn (l0.length : Int) 14) then (if (mn (l0.length : Int) 14) ≤ (l0.length : Int) then ((some (l0.take ((mn (l0.length : Int) 14) : Int).toNat : List (S44))).bind fun y213 => ((depgraph_Levels.f y213).bind fun bt217 => ((glossatorref3_Cyclic.f k y213).bind fun t221 => (if t221 = true then ((glossatorlaw3_graphExample.f k).bind fun t222 => (if t222 = true then (if bt217.2 = 8 then (some ((bt217.1.length : Int) == 0)) else (some false)) else (some false))) else ((glossatorref3_Levels.f k y213).bind fun t223 => (if bt217.2 = 0 then (glossatorlaw3_DepgraphLevels.j0 k bt217.1 t223 ((bt217.1.length : Int) != (t223.length : Int))) else (glossatorlaw3_DepgraphLevels.j0 k bt217.1 t223 true))))))) else (none)) else (none)) else (some false))) = some r := h
  clear h
  replace H := Option.bind_eq_some_iff.mp H
  obtain ⟨t212, A20, H⟩ := H
  replace H : (if t212 = true then (if 0 ≤ (mn (l0.length : Int) 14) then (if (mn (l0.length : Int) 14) ≤ (l0.length : Int) then ((some (l0.take ((mn (l0.length : Int) 14) : Int).toNat : List (S44))).bind fun y213 => ((depgraph_Levels.f y213).bind fun bt217 => ((glossatorref3_Cyclic.f k y213).bind fun t221 => (if t221 = true then ((glossatorlaw3_graphExample.f k).bind fun t222 => (if t222 = true then (if bt217.2 = 8 then (some ((bt217.1.length : Int) == 0)) else (some false)) else (some false))) else ((glossatorref3_Levels.f k y213).bind fun t223 => (if bt217.2 = 0 then (glossatorlaw3_DepgraphLevels.j0 k bt217.1 t223 ((bt217.1.length : Int) != (t223.length : Int))) else (glossatorlaw3_DepgraphLevels.j0 k bt217.1 t223 true))))))) else (none)) else (none)) else (some false)) = some r := H
  have A2 := Aside0.mk A20
  clear A20
  by_cases c3 : t212 = true
  · subst c3
    have H1 : (if 0 ≤ (mn (l0.length : Int) 14) then (if (mn (l0.length : Int) 14) ≤ (l0.length : Int) then ((some (l0.take ((mn (l0.length : Int) 14) : Int).toNat : List (S44))).bind fun y213 => ((depgraph_Levels.f y213).bind fun bt217 => ((glossatorref3_Cyclic.f k y213).bind fun t221 => (if t221 = true then ((glossatorlaw3_graphExample.f k).bind fun t222 => (if t222 = true then (if bt217.2 = 8 then (some ((bt217.1.length : Int) == 0)) else (some false)) else (some false))) else ((glossatorref3_Levels.f k y213).bind fun t223 => (if bt217.2 = 0 then (glossatorlaw3_DepgraphLevels.j0 k bt217.1 t223 ((bt217.1.length : Int) != (t223.length : Int))) else (glossatorlaw3_DepgraphLevels.j0 k bt217.1 t223 true))))))) else (none)) else (none)) = some r := by rw [if_pos rfl] at H; exact H
    clear H
    have H := H1
    clear H1
    obtain ⟨ji4, hji4⟩ : ∃ j_ : Int, (mn (l0.length : Int) 14) = j_ := ⟨_, rfl⟩
    replace H : (if 0 ≤ (ji4) then (if (ji4) ≤ (l0.length : Int) then ((some (l0.take ((ji4) : Int).toNat : List (S44))).bind fun y213 => ((depgraph_Levels.f y213).bind fun bt217 => ((glossatorref3_Cyclic.f k y213).bind fun t221 => (if t221 = true then ((glossatorlaw3_graphExample.f k).bind fun t222 => (if t222 = true then (if bt217.2 = 8 then (some ((bt217.1.length : Int) == 0)) else (some false)) else (some false))) else ((glossatorref3_Levels.f k y213).bind fun t223 => (if bt217.2 = 0 then (glossatorlaw3_DepgraphLevels.j0 k bt217.1 t223 ((bt217.1.length : Int) != (t223.length : Int))) else (glossatorlaw3_DepgraphLevels.j0 k bt217.1 t223 true))))))) else (none)) else (none)) = some r := by first | (rw [hji4] at H; exact H) | (simp only [hji4] at H ⊢; exact H)
    (try rw [hji4] at A2)
    (try (have hji4h : ji4 ≤ 14 := by (rw [← hji4]; unfold mn; (repeat' split) <;> omega)))
    (try (have hji4g : ji4 ≤ 64 := by omega))
    (try (have hji4l : 0 ≤ ji4 := by (rw [← hji4]; unfold mn; (repeat' split) <;> omega)))
    (try (have hji4m : 0 ≤ ji4 := by omega))
    have hji4_ : (if 14 < (l0.length : Int) then 14 else (l0.length : Int)) = ji4 := hji4
    by_cases c5 : 0 ≤ (ji4)
    · rw [if_pos c5] at H
      have c5b0 := eq_true c5
      have c5b1 : decide (0 ≤ (ji4)) = true := decide_eq_true c5
      clear c5
      by_cases c6 : (ji4) ≤ (l0.length : Int)
      · rw [if_pos c6] at H
        have c6b0 := eq_true c6
        have c6b1 : decide ((ji4) ≤ (l0.length : Int)) = true := decide_eq_true c6
        clear c6
        obtain ⟨y213, hy213⟩ : ∃ y_ : List (S44), y_ = (l0.take ((ji4) : Int).toNat) := ⟨_, rfl⟩
        replace H : ((depgraph_Levels.f y213).bind fun bt217 => ((glossatorref3_Cyclic.f k y213).bind fun t221 => (if t221 = true then ((glossatorlaw3_graphExample.f k).bind fun t222 => (if t222 = true then (if bt217.2 = 8 then (some ((bt217.1.length : Int) == 0)) else (some false)) else (some false))) else ((glossatorref3_Levels.f k y213).bind fun t223 => (if bt217.2 = 0 then (glossatorlaw3_DepgraphLevels.j0 k bt217.1 t223 ((bt217.1.length : Int) != (t223.length : Int))) else (glossatorlaw3_DepgraphLevels.j0 k bt217.1 t223 true)))))) = some r := by first | (rw [hy213]; with_reducible exact H) | (have H2_ := (Option.bind_some _ _).symm.trans H; rw [hy213]; with_reducible exact H2_) | (have H2_ := (Option.bind_some _ _).symm.trans H; with_reducible exact H2_) | with_reducible exact H | (rw [hy213]; exact H) | exact H
        have Ny213 := Aside0.mk hy213
        clear hy213
        replace H := Option.bind_eq_some_iff.mp H
        obtain ⟨⟨t217, t218⟩, A70, H⟩ := H
        replace H : ((glossatorref3_Cyclic.f k y213).bind fun t221 => (if t221 = true then ((glossatorlaw3_graphExample.f k).bind fun t222 => (if t222 = true then (if t218 = 8 then (some ((t217.length : Int) == 0)) else (some false)) else (some false))) else ((glossatorref3_Levels.f k y213).bind fun t223 => (if t218 = 0 then (glossatorlaw3_DepgraphLevels.j0 k t217 t223 ((t217.length : Int) != (t223.length : Int))) else (glossatorlaw3_DepgraphLevels.j0 k t217 t223 true))))) = some r := H
        have A7 := Aside0.mk A70
        clear A70
        replace H := Option.bind_eq_some_iff.mp H
        obtain ⟨t221, A80, H⟩ := H
        replace H : (if t221 = true then ((glossatorlaw3_graphExample.f k).bind fun t222 => (if t222 = true then (if t218 = 8 then (some ((t217.length : Int) == 0)) else (some false)) else (some false))) else ((glossatorref3_Levels.f k y213).bind fun t223 => (if t218 = 0 then (glossatorlaw3_DepgraphLevels.j0 k t217 t223 ((t217.length : Int) != (t223.length : Int))) else (glossatorlaw3_DepgraphLevels.j0 k t217 t223 true)))) = some r := H
        have A8 := Aside0.mk A80
        clear A80
        by_cases c9 : t221 = true
        · subst c9
          have H1 : ((glossatorlaw3_graphExample.f k).bind fun t222 => (if t222 = true then (if t218 = 8 then (some ((t217.length : Int) == 0)) else (some false)) else (some false))) = some r := by rw [if_pos rfl] at H; exact H
          clear H
          have H := H1
          clear H1
          replace H := Option.bind_eq_some_iff.mp H
          obtain ⟨t222, A100, H⟩ := H
          replace H : (if t222 = true then (if t218 = 8 then (some ((t217.length : Int) == 0)) else (some false)) else (some false)) = some r := H
          have A10 := Aside0.mk A100
          clear A100
          by_cases c11 : t222 = true
          · subst c11
            have H1 : (if t218 = 8 then (some ((t217.length : Int) == 0)) else (some false)) = some r := by rw [if_pos rfl] at H; exact H
            clear H
            have H := H1
            clear H1
            by_cases c12 : t218 = 8
            · rw [if_pos c12] at H
              have c12b0 : (t218 == 8) = true := beq_iff_eq.mpr c12
              have c12b1 : (t218 != 8) = false := bne_eq_false_iff_eq.mpr c12
              clear c12
              obtain rfl := Option.some.inj H
              go_enter Try.func5, Try.ntmps5
              go_wp2_with (first | ((with_reducible refine gate_callee (f := 7) rfl ?_); refine goesL_ (some 7) rfl rfl Try.func7 (by kernel_rfl) rfl #[] rfl (by (try simp only [List.map_toArray, List.map_cons, List.map_nil]); first | done | rfl | (simp only [List.length_drop, List.length_take]; rfl)) ?_; (with_reducible refine (glossatorlaw3_graphExample.calls k  true _ A2.out).mono ?_); rintro e w13 ⟨rfl, hb⟩; refine ⟨_, rfl, ?_⟩; have n0_ := Aside0.mk (below_step (by repeat (first | (with_reducible first | exact HB.out | apply below_alloc | apply pw_below_drewN | apply below_drew1) | exact HB.out)) hb); clear HB; have HB := n0_; clear n0_; (try clear hb); (try clear hb2); (try clear hk); (try clear hi); have q14 : ((ji4) : Int) ≤ ((l0.length : Int) : Int) := of_decide_eq_true (by first | (with_reducible assumption) | assumption); obtain ⟨i014, hi014, _, hsz14, _⟩ := info_parts info44; have hroom14 : l0.length ≤ c0 := HC0.out; have hC14 : Kd.C k44 _ A0 l0.length l0 := HR0.out; have hcut14 := cut_to (P := Try.prog) 22 44 .i64 Try.underlying22 hi014 A0 l0.length c0 (ji4) (of_decide_eq_true (by first | (with_reducible assumption) | assumption)) q14 hroom14; have hr14 := Kd.C_take (m := ((ji4) : Int).toNat) hC14 (by omega); have hy14 : y213.length = ((ji4) : Int).toNat := (by rw [Ny213.out, List.length_take]; omega); rw [← Ny213.out] at hr14; rw [← hy14] at hcut14; have HR216 := Aside0.mk hr14; have HC216 := Aside0.mk (show y213.length ≤ c0 from by omega); clear hr14 hC14 hroom14 hi014 hsz14; have KY14 := Aside0.mk hy14; clear hy14; replace q14 := eq_true q14) | ((with_reducible refine gate_callee (f := 16) rfl ?_); refine goesL_ (some 16) rfl rfl Try.func16 (by kernel_rfl) rfl #[.slice A0 y213.length c0] rfl (by (try simp only [List.map_toArray, List.map_cons, List.map_nil]); first | done | rfl | (simp only [List.length_drop, List.length_take]; rfl)) ?_; (with_reducible refine (depgraph_Levels.calls _ _ y213 t217 t218 _ ?side1 ?side2 A7.out).mono ?_); (case side1 => repeat (first | exact (Kd.C_below HR216.out HB.out) | (with_reducible refine Kd.C_alloc ?_ _) | (with_reducible refine Kd.C_drewN ?_ _) | (with_reducible refine Kd.C_drew ?_))); (case side2 => exact HC216.out); rintro e w15 ⟨v219, rfl, ho0, hb⟩; refine ⟨_, rfl, ?_⟩; have n0_ := Aside0.mk (Kd.S_lower ho0 (below_size (by repeat (first | (with_reducible first | exact HB.out | apply below_alloc | apply pw_below_drewN | apply below_drew1) | exact HB.out)))); have n1_ := Aside0.mk (below_step (by repeat (first | (with_reducible first | exact HB.out | apply below_alloc | apply pw_below_drewN | apply below_drew1) | exact HB.out)) hb); clear HB; have HO220 := n0_; have HB := n1_; clear n0_ n1_; (try clear hb); (try clear hb2); (try clear hk); (try clear hi); (try clear ho0)) | ((with_reducible refine gate_callee (f := 14) rfl ?_); refine goesL_ (some 20) rfl rfl Try.func14 (by kernel_rfl) rfl #[.slice A0 y213.length c0] rfl (by (try simp only [List.map_toArray, List.map_cons, List.map_nil]); first | done | rfl | (simp only [List.length_drop, List.length_take]; rfl)) ?_; (with_reducible refine (glossatorref3_Cyclic.calls k _ _ y213 true _ ?side1 ?side2 A8.out).mono ?_); (case side1 => repeat (first | exact (Kd.C_below HR216.out HB.out) | (with_reducible refine Kd.C_alloc ?_ _) | (with_reducible refine Kd.C_drewN ?_ _) | (with_reducible refine Kd.C_drew ?_))); (case side2 => exact HC216.out); rintro e w16 ⟨rfl, hb⟩; refine ⟨_, rfl, ?_⟩; have n0_ := Aside0.mk (Kd.S_below (by (with_reducible repeat (first | apply Kd.S_alloc | apply Kd.S_drewN | apply Kd.S_drew)); exact HO220.out) hb); have n1_ := Aside0.mk (below_step (by repeat (first | (with_reducible first | exact HB.out | apply below_alloc | apply pw_below_drewN | apply below_drew1) | exact HB.out)) hb); clear HO220; clear HB; have HO220 := n0_; have HB := n1_; clear n0_ n1_; (try clear hb); (try clear hb2); (try clear hk); (try clear hi)) | ((with_reducible refine gate_callee (f := 7) rfl ?_); refine goesL_ (some 21) rfl rfl Try.func7 (by kernel_rfl) rfl #[] rfl (by (try simp only [List.map_toArray, List.map_cons, List.map_nil]); first | done | rfl | (simp only [List.length_drop, List.length_take]; rfl)) ?_; (with_reducible refine (glossatorlaw3_graphExample.calls k  true _ A10.out).mono ?_); rintro e w17 ⟨rfl, hb⟩; refine ⟨_, rfl, ?_⟩; have n0_ := Aside0.mk (Kd.S_below (by (with_reducible repeat (first | apply Kd.S_alloc | apply Kd.S_drewN | apply Kd.S_drew)); exact HO220.out) hb); have n1_ := Aside0.mk (below_step (by repeat (first | (with_reducible first | exact HB.out | apply below_alloc | apply pw_below_drewN | apply below_drew1) | exact HB.out)) hb); clear HO220; clear HB; have HO220 := n0_; have HB := n1_; clear n0_ n1_; (try clear hb); (try clear hb2); (try clear hk); (try clear hi); obtain ⟨Ao18, co18, eo18⟩ := Kd.S_slice HO220.out; subst eo18))
              go_ret
              exact ⟨by first | rfl | (simp [errW_none, errW_some] <;> rfl) | (simp only [← hji4]; first | rfl | (simp [errW_none, errW_some] <;> rfl)) | (simp [*, errW_none, errW_some] <;> rfl), by repeat (first | (with_reducible first | exact HB.out | apply below_alloc | apply pw_below_drewN | apply below_drew1) | exact HB.out)⟩
            · rw [if_neg c12] at H
              have c12b0 : (t218 == 8) = false := beq_eq_false_iff_ne.mpr c12
              have c12b1 : (t218 != 8) = true := bne_iff_ne.mpr c12
              obtain rfl := Option.some.inj H
              go_enter Try.func5, Try.ntmps5
              go_wp2_with (first | ((with_reducible refine gate_callee (f := 7) rfl ?_); refine goesL_ (some 7) rfl rfl Try.func7 (by kernel_rfl) rfl #[] rfl (by (try simp only [List.map_toArray, List.map_cons, List.map_nil]); first | done | rfl | (simp only [List.length_drop, List.length_take]; rfl)) ?_; (with_reducible refine (glossatorlaw3_graphExample.calls k  true _ A2.out).mono ?_); rintro e w19 ⟨rfl, hb⟩; refine ⟨_, rfl, ?_⟩; have n0_ := Aside0.mk (below_step (by repeat (first | (with_reducible first | exact HB.out | apply below_alloc | apply pw_below_drewN | apply below_drew1) | exact HB.out)) hb); clear HB; have HB := n0_; clear n0_; (try clear hb); (try clear hb2); (try clear hk); (try clear hi); have q20 : ((ji4) : Int) ≤ ((l0.length : Int) : Int) := of_decide_eq_true (by first | (with_reducible assumption) | assumption); obtain ⟨i020, hi020, _, hsz20, _⟩ := info_parts info44; have hroom20 : l0.length ≤ c0 := HC0.out; have hC20 : Kd.C k44 _ A0 l0.length l0 := HR0.out; have hcut20 := cut_to (P := Try.prog) 22 44 .i64 Try.underlying22 hi020 A0 l0.length c0 (ji4) (of_decide_eq_true (by first | (with_reducible assumption) | assumption)) q20 hroom20; have hr20 := Kd.C_take (m := ((ji4) : Int).toNat) hC20 (by omega); have hy20 : y213.length = ((ji4) : Int).toNat := (by rw [Ny213.out, List.length_take]; omega); rw [← Ny213.out] at hr20; rw [← hy20] at hcut20; have HR216 := Aside0.mk hr20; have HC216 := Aside0.mk (show y213.length ≤ c0 from by omega); clear hr20 hC20 hroom20 hi020 hsz20; have KY20 := Aside0.mk hy20; clear hy20; replace q20 := eq_true q20) | ((with_reducible refine gate_callee (f := 16) rfl ?_); refine goesL_ (some 16) rfl rfl Try.func16 (by kernel_rfl) rfl #[.slice A0 y213.length c0] rfl (by (try simp only [List.map_toArray, List.map_cons, List.map_nil]); first | done | rfl | (simp only [List.length_drop, List.length_take]; rfl)) ?_; (with_reducible refine (depgraph_Levels.calls _ _ y213 t217 t218 _ ?side1 ?side2 A7.out).mono ?_); (case side1 => repeat (first | exact (Kd.C_below HR216.out HB.out) | (with_reducible refine Kd.C_alloc ?_ _) | (with_reducible refine Kd.C_drewN ?_ _) | (with_reducible refine Kd.C_drew ?_))); (case side2 => exact HC216.out); rintro e w21 ⟨v219, rfl, ho0, hb⟩; refine ⟨_, rfl, ?_⟩; have n0_ := Aside0.mk (Kd.S_lower ho0 (below_size (by repeat (first | (with_reducible first | exact HB.out | apply below_alloc | apply pw_below_drewN | apply below_drew1) | exact HB.out)))); have n1_ := Aside0.mk (below_step (by repeat (first | (with_reducible first | exact HB.out | apply below_alloc | apply pw_below_drewN | apply below_drew1) | exact HB.out)) hb); clear HB; have HO220 := n0_; have HB := n1_; clear n0_ n1_; (try clear hb); (try clear hb2); (try clear hk); (try clear hi); (try clear ho0)) | ((with_reducible refine gate_callee (f := 14) rfl ?_); refine goesL_ (some 20) rfl rfl Try.func14 (by kernel_rfl) rfl #[.slice A0 y213.length c0] rfl (by (try simp only [List.map_toArray, List.map_cons, List.map_nil]); first | done | rfl | (simp only [List.length_drop, List.length_take]; rfl)) ?_; (with_reducible refine (glossatorref3_Cyclic.calls k _ _ y213 true _ ?side1 ?side2 A8.out).mono ?_); (case side1 => repeat (first | exact (Kd.C_below HR216.out HB.out) | (with_reducible refine Kd.C_alloc ?_ _) | (with_reducible refine Kd.C_drewN ?_ _) | (with_reducible refine Kd.C_drew ?_))); (case side2 => exact HC216.out); rintro e w22 ⟨rfl, hb⟩; refine ⟨_, rfl, ?_⟩; have n0_ := Aside0.mk (Kd.S_below (by (with_reducible repeat (first | apply Kd.S_alloc | apply Kd.S_drewN | apply Kd.S_drew)); exact HO220.out) hb); have n1_ := Aside0.mk (below_step (by repeat (first | (with_reducible first | exact HB.out | apply below_alloc | apply pw_below_drewN | apply below_drew1) | exact HB.out)) hb); clear HO220; clear HB; have HO220 := n0_; have HB := n1_; clear n0_ n1_; (try clear hb); (try clear hb2); (try clear hk); (try clear hi)) | ((with_reducible refine gate_callee (f := 7) rfl ?_); refine goesL_ (some 21) rfl rfl Try.func7 (by kernel_rfl) rfl #[] rfl (by (try simp only [List.map_toArray, List.map_cons, List.map_nil]); first | done | rfl | (simp only [List.length_drop, List.length_take]; rfl)) ?_; (with_reducible refine (glossatorlaw3_graphExample.calls k  true _ A10.out).mono ?_); rintro e w23 ⟨rfl, hb⟩; refine ⟨_, rfl, ?_⟩; have n0_ := Aside0.mk (Kd.S_below (by (with_reducible repeat (first | apply Kd.S_alloc | apply Kd.S_drewN | apply Kd.S_drew)); exact HO220.out) hb); have n1_ := Aside0.mk (below_step (by repeat (first | (with_reducible first | exact HB.out | apply below_alloc | apply pw_below_drewN | apply below_drew1) | exact HB.out)) hb); clear HO220; clear HB; have HO220 := n0_; have HB := n1_; clear n0_ n1_; (try clear hb); (try clear hb2); (try clear hk); (try clear hi)))
              go_ret
              exact ⟨by first | rfl | (simp [errW_none, errW_some] <;> rfl) | (simp only [← hji4]; first | rfl | (simp [errW_none, errW_some] <;> rfl)) | (simp [*, errW_none, errW_some] <;> rfl), by repeat (first | (with_reducible first | exact HB.out | apply below_alloc | apply pw_below_drewN | apply below_drew1) | exact HB.out)⟩
          · replace c11 := Bool.eq_false_iff.mpr c11
            subst c11
            have H1 : (some false) = some r := by rw [if_neg (show ¬ (false = true) by decide)] at H; exact H
            clear H
            have H := H1
            clear H1
            obtain rfl := Option.some.inj H
            go_enter Try.func5, Try.ntmps5
            go_wp2_with (first | ((with_reducible refine gate_callee (f := 7) rfl ?_); refine goesL_ (some 7) rfl rfl Try.func7 (by kernel_rfl) rfl #[] rfl (by (try simp only [List.map_toArray, List.map_cons, List.map_nil]); first | done | rfl | (simp only [List.length_drop, List.length_take]; rfl)) ?_; (with_reducible refine (glossatorlaw3_graphExample.calls k  true _ A2.out).mono ?_); rintro e w24 ⟨rfl, hb⟩; refine ⟨_, rfl, ?_⟩; have n0_ := Aside0.mk (below_step (by repeat (first | (with_reducible first | exact HB.out | apply below_alloc | apply pw_below_drewN | apply below_drew1) | exact HB.out)) hb); clear HB; have HB := n0_; clear n0_; (try clear hb); (try clear hb2); (try clear hk); (try clear hi); have q25 : ((ji4) : Int) ≤ ((l0.length : Int) : Int) := of_decide_eq_true (by first | (with_reducible assumption) | assumption); obtain ⟨i025, hi025, _, hsz25, _⟩ := info_parts info44; have hroom25 : l0.length ≤ c0 := HC0.out; have hC25 : Kd.C k44 _ A0 l0.length l0 := HR0.out; have hcut25 := cut_to (P := Try.prog) 22 44 .i64 Try.underlying22 hi025 A0 l0.length c0 (ji4) (of_decide_eq_true (by first | (with_reducible assumption) | assumption)) q25 hroom25; have hr25 := Kd.C_take (m := ((ji4) : Int).toNat) hC25 (by omega); have hy25 : y213.length = ((ji4) : Int).toNat := (by rw [Ny213.out, List.length_take]; omega); rw [← Ny213.out] at hr25; rw [← hy25] at hcut25; have HR216 := Aside0.mk hr25; have HC216 := Aside0.mk (show y213.length ≤ c0 from by omega); clear hr25 hC25 hroom25 hi025 hsz25; have KY25 := Aside0.mk hy25; clear hy25; replace q25 := eq_true q25) | ((with_reducible refine gate_callee (f := 16) rfl ?_); refine goesL_ (some 16) rfl rfl Try.func16 (by kernel_rfl) rfl #[.slice A0 y213.length c0] rfl (by (try simp only [List.map_toArray, List.map_cons, List.map_nil]); first | done | rfl | (simp only [List.length_drop, List.length_take]; rfl)) ?_; (with_reducible refine (depgraph_Levels.calls _ _ y213 t217 t218 _ ?side1 ?side2 A7.out).mono ?_); (case side1 => repeat (first | exact (Kd.C_below HR216.out HB.out) | (with_reducible refine Kd.C_alloc ?_ _) | (with_reducible refine Kd.C_drewN ?_ _) | (with_reducible refine Kd.C_drew ?_))); (case side2 => exact HC216.out); rintro e w26 ⟨v219, rfl, ho0, hb⟩; refine ⟨_, rfl, ?_⟩; have n0_ := Aside0.mk (Kd.S_lower ho0 (below_size (by repeat (first | (with_reducible first | exact HB.out | apply below_alloc | apply pw_below_drewN | apply below_drew1) | exact HB.out)))); have n1_ := Aside0.mk (below_step (by repeat (first | (with_reducible first | exact HB.out | apply below_alloc | apply pw_below_drewN | apply below_drew1) | exact HB.out)) hb); clear HB; have HO220 := n0_; have HB := n1_; clear n0_ n1_; (try clear hb); (try clear hb2); (try clear hk); (try clear hi); (try clear ho0)) | ((with_reducible refine gate_callee (f := 14) rfl ?_); refine goesL_ (some 20) rfl rfl Try.func14 (by kernel_rfl) rfl #[.slice A0 y213.length c0] rfl (by (try simp only [List.map_toArray, List.map_cons, List.map_nil]); first | done | rfl | (simp only [List.length_drop, List.length_take]; rfl)) ?_; (with_reducible refine (glossatorref3_Cyclic.calls k _ _ y213 true _ ?side1 ?side2 A8.out).mono ?_); (case side1 => repeat (first | exact (Kd.C_below HR216.out HB.out) | (with_reducible refine Kd.C_alloc ?_ _) | (with_reducible refine Kd.C_drewN ?_ _) | (with_reducible refine Kd.C_drew ?_))); (case side2 => exact HC216.out); rintro e w27 ⟨rfl, hb⟩; refine ⟨_, rfl, ?_⟩; have n0_ := Aside0.mk (Kd.S_below (by (with_reducible repeat (first | apply Kd.S_alloc | apply Kd.S_drewN | apply Kd.S_drew)); exact HO220.out) hb); have n1_ := Aside0.mk (below_step (by repeat (first | (with_reducible first | exact HB.out | apply below_alloc | apply pw_below_drewN | apply below_drew1) | exact HB.out)) hb); clear HO220; clear HB; have HO220 := n0_; have HB := n1_; clear n0_ n1_; (try clear hb); (try clear hb2); (try clear hk); (try clear hi)) | ((with_reducible refine gate_callee (f := 7) rfl ?_); refine goesL_ (some 21) rfl rfl Try.func7 (by kernel_rfl) rfl #[] rfl (by (try simp only [List.map_toArray, List.map_cons, List.map_nil]); first | done | rfl | (simp only [List.length_drop, List.length_take]; rfl)) ?_; (with_reducible refine (glossatorlaw3_graphExample.calls k  false _ A10.out).mono ?_); rintro e w28 ⟨rfl, hb⟩; refine ⟨_, rfl, ?_⟩; have n0_ := Aside0.mk (Kd.S_below (by (with_reducible repeat (first | apply Kd.S_alloc | apply Kd.S_drewN | apply Kd.S_drew)); exact HO220.out) hb); have n1_ := Aside0.mk (below_step (by repeat (first | (with_reducible first | exact HB.out | apply below_alloc | apply pw_below_drewN | apply below_drew1) | exact HB.out)) hb); clear HO220; clear HB; have HO220 := n0_; have HB := n1_; clear n0_ n1_; (try clear hb); (try clear hb2); (try clear hk); (try clear hi)))
            go_ret
            exact ⟨by first | rfl | (simp [errW_none, errW_some] <;> rfl) | (simp only [← hji4]; first | rfl | (simp [errW_none, errW_some] <;> rfl)) | (simp [*, errW_none, errW_some] <;> rfl), by repeat (first | (with_reducible first | exact HB.out | apply below_alloc | apply pw_below_drewN | apply below_drew1) | exact HB.out)⟩
        · replace c9 := Bool.eq_false_iff.mpr c9
          subst c9
          have H1 : ((glossatorref3_Levels.f k y213).bind fun t223 => (if t218 = 0 then (glossatorlaw3_DepgraphLevels.j0 k t217 t223 ((t217.length : Int) != (t223.length : Int))) else (glossatorlaw3_DepgraphLevels.j0 k t217 t223 true))) = some r := by rw [if_neg (show ¬ (false = true) by decide)] at H; exact H
          clear H
          have H := H1
          clear H1
          replace H := Option.bind_eq_some_iff.mp H
          obtain ⟨t223, A290, H⟩ := H
          replace H : (if t218 = 0 then (glossatorlaw3_DepgraphLevels.j0 k t217 t223 ((t217.length : Int) != (t223.length : Int))) else (glossatorlaw3_DepgraphLevels.j0 k t217 t223 true)) = some r := H
          have A29 := Aside0.mk A290
          clear A290
          have HC30 := Aside0.mk H
          clear H
          go_enter Try.func5, Try.ntmps5
          go_upto_region 8 with (first | ((with_reducible refine gate_callee (f := 7) rfl ?_); refine goesL_ (some 7) rfl rfl Try.func7 (by kernel_rfl) rfl #[] rfl (by (try simp only [List.map_toArray, List.map_cons, List.map_nil]); first | done | rfl | (simp only [List.length_drop, List.length_take]; rfl)) ?_; (with_reducible refine (glossatorlaw3_graphExample.calls k  true _ A2.out).mono ?_); rintro e w31 ⟨rfl, hb⟩; refine ⟨_, rfl, ?_⟩; have n0_ := Aside0.mk (below_step (by repeat (first | (with_reducible first | exact HB.out | apply below_alloc | apply pw_below_drewN | apply below_drew1) | exact HB.out)) hb); clear HB; have HB := n0_; clear n0_; (try clear hb); (try clear hb2); (try clear hk); (try clear hi); have q32 : ((ji4) : Int) ≤ ((l0.length : Int) : Int) := of_decide_eq_true (by first | (with_reducible assumption) | assumption); obtain ⟨i032, hi032, _, hsz32, _⟩ := info_parts info44; have hroom32 : l0.length ≤ c0 := HC0.out; have hC32 : Kd.C k44 _ A0 l0.length l0 := HR0.out; have hcut32 := cut_to (P := Try.prog) 22 44 .i64 Try.underlying22 hi032 A0 l0.length c0 (ji4) (of_decide_eq_true (by first | (with_reducible assumption) | assumption)) q32 hroom32; have hr32 := Kd.C_take (m := ((ji4) : Int).toNat) hC32 (by omega); have hy32 : y213.length = ((ji4) : Int).toNat := (by rw [Ny213.out, List.length_take]; omega); rw [← Ny213.out] at hr32; rw [← hy32] at hcut32; have HR216 := Aside0.mk hr32; have HC216 := Aside0.mk (show y213.length ≤ c0 from by omega); clear hr32 hC32 hroom32 hi032 hsz32; have KY32 := Aside0.mk hy32; clear hy32; replace q32 := eq_true q32) | ((with_reducible refine gate_callee (f := 16) rfl ?_); refine goesL_ (some 16) rfl rfl Try.func16 (by kernel_rfl) rfl #[.slice A0 y213.length c0] rfl (by (try simp only [List.map_toArray, List.map_cons, List.map_nil]); first | done | rfl | (simp only [List.length_drop, List.length_take]; rfl)) ?_; (with_reducible refine (depgraph_Levels.calls _ _ y213 t217 t218 _ ?side1 ?side2 A7.out).mono ?_); (case side1 => repeat (first | exact (Kd.C_below HR216.out HB.out) | (with_reducible refine Kd.C_alloc ?_ _) | (with_reducible refine Kd.C_drewN ?_ _) | (with_reducible refine Kd.C_drew ?_))); (case side2 => exact HC216.out); rintro e w33 ⟨v219, rfl, ho0, hb⟩; refine ⟨_, rfl, ?_⟩; have n0_ := Aside0.mk (Kd.S_lower ho0 (below_size (by repeat (first | (with_reducible first | exact HB.out | apply below_alloc | apply pw_below_drewN | apply below_drew1) | exact HB.out)))); have n1_ := Aside0.mk (below_step (by repeat (first | (with_reducible first | exact HB.out | apply below_alloc | apply pw_below_drewN | apply below_drew1) | exact HB.out)) hb); clear HB; have HO220 := n0_; have HB := n1_; clear n0_ n1_; (try clear hb); (try clear hb2); (try clear hk); (try clear hi); (try clear ho0)) | ((with_reducible refine gate_callee (f := 14) rfl ?_); refine goesL_ (some 20) rfl rfl Try.func14 (by kernel_rfl) rfl #[.slice A0 y213.length c0] rfl (by (try simp only [List.map_toArray, List.map_cons, List.map_nil]); first | done | rfl | (simp only [List.length_drop, List.length_take]; rfl)) ?_; (with_reducible refine (glossatorref3_Cyclic.calls k _ _ y213 false _ ?side1 ?side2 A8.out).mono ?_); (case side1 => repeat (first | exact (Kd.C_below HR216.out HB.out) | (with_reducible refine Kd.C_alloc ?_ _) | (with_reducible refine Kd.C_drewN ?_ _) | (with_reducible refine Kd.C_drew ?_))); (case side2 => exact HC216.out); rintro e w34 ⟨rfl, hb⟩; refine ⟨_, rfl, ?_⟩; have n0_ := Aside0.mk (Kd.S_below (by (with_reducible repeat (first | apply Kd.S_alloc | apply Kd.S_drewN | apply Kd.S_drew)); exact HO220.out) hb); have n1_ := Aside0.mk (below_step (by repeat (first | (with_reducible first | exact HB.out | apply below_alloc | apply pw_below_drewN | apply below_drew1) | exact HB.out)) hb); clear HO220; clear HB; have HO220 := n0_; have HB := n1_; clear n0_ n1_; (try clear hb); (try clear hb2); (try clear hk); (try clear hi)) | ((with_reducible refine gate_callee (f := 17) rfl ?_); refine goesL_ (some 32) rfl rfl Try.func17 (by kernel_rfl) rfl #[.slice A0 y213.length c0] rfl (by (try simp only [List.map_toArray, List.map_cons, List.map_nil]); first | done | rfl | (simp only [List.length_drop, List.length_take]; rfl)) ?_; (with_reducible refine (glossatorref3_Levels.calls k _ _ y213 t223 _ ?side1 ?side2 A29.out).mono ?_); (case side1 => repeat (first | exact (Kd.C_below HR216.out HB.out) | (with_reducible refine Kd.C_alloc ?_ _) | (with_reducible refine Kd.C_drewN ?_ _) | (with_reducible refine Kd.C_drew ?_))); (case side2 => exact HC216.out); rintro e w35 ⟨v224, rfl, ho0, hb⟩; refine ⟨_, rfl, ?_⟩; have n0_ := Aside0.mk (Kd.S_elder' (by (with_reducible repeat (first | apply Kd.S_alloc | apply Kd.S_drewN | apply Kd.S_drew)); exact HO220.out) (Kd.S_base ho0) hb); have n1_ := Aside0.mk (Kd.S_lower (Kd.S_new' ho0 (Kd.S_lt (by (with_reducible repeat (first | apply Kd.S_alloc | apply Kd.S_drewN | apply Kd.S_drew)); exact HO220.out))) (below_size (by repeat (first | (with_reducible first | exact HB.out | apply below_alloc | apply pw_below_drewN | apply below_drew1) | exact HB.out)))); have n2_ := Aside0.mk (below_step (by repeat (first | (with_reducible first | exact HB.out | apply below_alloc | apply pw_below_drewN | apply below_drew1) | exact HB.out)) hb); clear HO220; clear HB; have HO220 := n0_; have HO225 := n1_; have HB := n2_; clear n0_ n1_ n2_; (try clear hb); (try clear hb2); (try clear hk); (try clear hi); (try clear ho0)))
          (try simp only [Act.put, List.setIfInBounds_toArray, List.set_cons_zero, List.set_cons_succ])
          go_cut [41] (fun v41 wc => ∃ (kq : Nat) (x41_29 : Bool), v41 = .bool x41_29 ∧ Aside0 (glossatorlaw3_DepgraphLevels.j0 kq t217 t223 x41_29 = some r) ∧ Aside0 (kq ≤ k) ∧ Aside0 (Kd.S (Kd.slice 24 k24) 27 wc w.heap.size (fun k_ => some k_ ≠ (v224 : Value).ownBlock) v219 t217) ∧ Aside0 (Kd.S (Kd.slice 24 k24) 27 wc w.heap.size (fun k_ => some k_ ≠ (v219 : Value).ownBlock) v224 t223) ∧ Aside0 (Below w.heap.size w wc))
          case first =>
            have H := HC30.out
            clear HC30
            by_cases c36 : t218 = 0
            · rw [if_pos c36] at H
              have c36b0 : (t218 == 0) = true := beq_iff_eq.mpr c36
              have c36b1 : (t218 != 0) = false := bne_eq_false_iff_eq.mpr c36
              clear c36
              (first | rw [c36b0] | (simp only [i64_w, i32_w]; rw [c36b0]) | skip)
              have H' := Aside0.mk H
              clear H
              obtain ⟨Ao37, co37, eo37⟩ := Kd.S_slice HO220.out
              subst eo37
              obtain ⟨Ao38, co38, eo38⟩ := Kd.S_slice HO225.out
              subst eo38
              go_wp2
              go_meet
              case rel => exact ⟨_, (((t217.length : Int) != (t223.length : Int))), (by first | rfl | (simp; done) | (simp [*]; done) | (simp [isEmpty_bne]; done)), H', ⟨by first | omega | exact Nat.le_refl _⟩, ⟨by (with_reducible repeat (first | apply Kd.S_alloc | apply Kd.S_drewN | apply Kd.S_drew)); exact Kd.S_mono HO220.out (fun _ hk => hk.2)⟩, ⟨by (with_reducible repeat (first | apply Kd.S_alloc | apply Kd.S_drewN | apply Kd.S_drew)); exact Kd.S_mono HO225.out (fun _ hk => hk.2)⟩, ⟨by repeat (first | (with_reducible first | exact HB.out | apply below_alloc | apply pw_below_drewN | apply below_drew1) | exact HB.out)⟩⟩
            · rw [if_neg c36] at H
              have c36b0 : (t218 == 0) = false := beq_eq_false_iff_ne.mpr c36
              have c36b1 : (t218 != 0) = true := bne_iff_ne.mpr c36
              (first | rw [c36b0] | (simp only [i64_w, i32_w]; rw [c36b0]) | skip)
              have H' := Aside0.mk H
              clear H
              go_wp2
              go_meet
              case rel => exact ⟨_, (true), (by first | rfl | (simp; done) | (simp [*]; done) | (simp [isEmpty_bne]; done)), H', ⟨by first | omega | exact Nat.le_refl _⟩, ⟨by (with_reducible repeat (first | apply Kd.S_alloc | apply Kd.S_drewN | apply Kd.S_drew)); exact Kd.S_mono HO220.out (fun _ hk => hk.2)⟩, ⟨by (with_reducible repeat (first | apply Kd.S_alloc | apply Kd.S_drewN | apply Kd.S_drew)); exact Kd.S_mono HO225.out (fun _ hk => hk.2)⟩, ⟨by repeat (first | (with_reducible first | exact HB.out | apply below_alloc | apply pw_below_drewN | apply below_drew1) | exact HB.out)⟩⟩
          case rest =>
            clear HC30
            try clear c1
            try clear q1
            try clear p2
            try clear q2
            try clear c3
            try clear q3
            try clear c5
            try clear c5b0
            try clear c5b1
            try clear c6
            try clear c6b0
            try clear c6b1
            try clear c7
            try clear c9
            try clear c11
            try clear c12
            try clear c12b0
            try clear c12b1
            try clear c14
            try clear q14
            try clear c16
            try clear c17
            try clear q20
            try clear q25
            try clear q32
            try clear c36
            try clear c36b0
            try clear c36b1
            try clear q14
            try clear q20
            try clear q25
            try clear q32
            obtain ⟨kq, x41_29, rfl, HA, HJ29, HO_3, HO_5, HB⟩ := hcut
            cases kq with
            | zero => exact absurd HA.out (by simp [glossatorlaw3_DepgraphLevels.j0])
            | succ kj29 =>
              have H := HA.out
              clear HA
              simp only [glossatorlaw3_DepgraphLevels.j0] at H
              by_cases c39 : x41_29 = true
              · subst c39
                have H1 : (some false) = some r := by rw [if_pos rfl] at H; exact H
                clear H
                have H := H1
                clear H1
                obtain rfl := Option.some.inj H
                go_wp2
                go_ret
                exact ⟨by first | rfl | (simp [errW_none, errW_some] <;> rfl) | (simp only [← hji4]; first | rfl | (simp [errW_none, errW_some] <;> rfl)) | (simp [*, errW_none, errW_some] <;> rfl), by repeat (first | (with_reducible first | exact HB.out | apply below_alloc | apply pw_below_drewN | apply below_drew1) | exact HB.out)⟩
              · replace c39 := Bool.eq_false_iff.mpr c39
                subst c39
                have H1 : (glossatorlaw3_DepgraphLevels.l0 kj29 t217 t223 (t223.length : Int) 0) = some r := by rw [if_neg (show ¬ (false = true) by decide)] at H; exact H
                clear H
                have H := H1
                clear H1
                have H' := Aside0.mk H
                clear H
                obtain ⟨Ao40, co40, eo40⟩ := Kd.S_slice HO_5.out
                subst eo40
                go_wp2
                go_loopg [44] kj29 (fun kq v44 w' => ∃ (x44_2 : Int), v44 = .int .i64 x44_2 ∧ Aside0 (glossatorlaw3_DepgraphLevels.l0 kq t217 t223 (t223.length : Int) x44_2 = some r) ∧ Aside0 (kq ≤ kj29) ∧ Aside0 (Kd.S (Kd.slice 24 k24) 27 w' w.heap.size (fun k_ => some k_ ≠ ((.slice Ao40 t223.length co40) : Value).ownBlock) v219 t217) ∧ Aside0 (Kd.S (Kd.slice 24 k24) 27 w' w.heap.size (fun k_ => some k_ ≠ (v219 : Value).ownBlock) (.slice Ao40 t223.length co40) t223) ∧ Aside0 (Below w.heap.size w w'))
                case atStart => exact ⟨(0), (by first | rfl | (simp; done) | (simp [*]; done) | (simp [isEmpty_bne]; done)), H', ⟨Nat.le_refl _⟩, ⟨by (with_reducible repeat (first | apply Kd.S_alloc | apply Kd.S_drewN | apply Kd.S_drew)); exact HO_3.out⟩, ⟨by (with_reducible repeat (first | apply Kd.S_alloc | apply Kd.S_drewN | apply Kd.S_drew)); exact HO_5.out⟩, ⟨by repeat (first | (with_reducible first | exact HB.out | apply below_alloc | apply pw_below_drewN | apply below_drew1) | exact HB.out)⟩⟩
                case round =>
                  clear H'
                  try clear c1
                  try clear q1
                  try clear p2
                  try clear q2
                  try clear c3
                  try clear q3
                  try clear c5
                  try clear c5b0
                  try clear c5b1
                  try clear c6
                  try clear c6b0
                  try clear c6b1
                  try clear c7
                  try clear c9
                  try clear c11
                  try clear c12
                  try clear c12b0
                  try clear c12b1
                  try clear c14
                  try clear q14
                  try clear c16
                  try clear c17
                  try clear q20
                  try clear q25
                  try clear q32
                  try clear c36
                  try clear c36b0
                  try clear c36b1
                  try clear c39
                  try clear p2
                  try clear q1
                  try clear q14
                  try clear q2
                  try clear q20
                  try clear q25
                  try clear q3
                  try clear q32
                  obtain ⟨x44_2, rfl, HA, HK2, HO_3, HO_5, HB⟩ := hrel
                  cases gk with
                  | zero => exact absurd HA.out (by simp [glossatorlaw3_DepgraphLevels.l0])
                  | succ k2 =>
                    have H := HA.out
                    clear HA
                    simp only [glossatorlaw3_DepgraphLevels.l0] at H
                    by_cases c41 : x44_2 < (t223.length : Int)
                    · rw [if_pos c41] at H
                      have c41b0 : decide (x44_2 < (t223.length : Int)) = true := decide_eq_true c41
                      clear c41
                      by_cases c42 : 0 ≤ x44_2
                      · rw [if_pos c42] at H
                        have c42b0 : decide (0 ≤ x44_2) = true := decide_eq_true c42
                        clear c42
                        by_cases c43 : x44_2 < (t217.length : Int)
                        · rw [if_pos c43] at H
                          have c43b0 : decide (x44_2 < (t217.length : Int)) = true := decide_eq_true c43
                          clear c43
                          by_cases c44 : x44_2 < (t223.length : Int)
                          · rw [if_pos c44] at H
                            have c44b0 : decide (x44_2 < (t223.length : Int)) = true := decide_eq_true c44
                            clear c44
                            replace H := Option.bind_eq_some_iff.mp H
                            obtain ⟨t228, A450, H⟩ := H
                            replace H : (if t228 = true then (glossatorlaw3_DepgraphLevels.l0 k2 t217 t223 (t223.length : Int) (wrap64 (x44_2 + 1))) else (some false)) = some r := H
                            have A45 := Aside0.mk A450
                            clear A450
                            by_cases c46 : t228 = true
                            · subst c46
                              have H1 : (glossatorlaw3_DepgraphLevels.l0 k2 t217 t223 (t223.length : Int) (wrap64 (x44_2 + 1))) = some r := by rw [if_pos rfl] at H; exact H
                              clear H
                              have H := H1
                              clear H1
                              have H' := Aside0.mk H
                              clear H
                              try go_wp2
                              have n0_ := Aside0.mk (Kd.S_drew HO_3.out)
                              have n1_ := Aside0.mk (Kd.S_drew HO_5.out)
                              have n2_ := Aside0.mk (below_drew1 HB.out)
                              clear HO_3
                              clear HO_5
                              clear HB
                              have HO_3 := n0_
                              have HO_5 := n1_
                              have HB := n2_
                              clear n0_ n1_ n2_
                              obtain ⟨Ao48, co48, eo48⟩ := Kd.S_slice HO_3.out
                              (first | subst eo48 | (injection eo48 with f1_ f2_ f3_; have f4_ := f1_.symm; have f5_ := f3_.symm; clear f1_ f2_ f3_; subst f4_; subst f5_))
                              have p226 : 0 ≤ (x44_2 : Int) := of_decide_eq_true (by first | (with_reducible assumption) | assumption)
                              have q226 : x44_2 < (t217.length : Int) := of_decide_eq_true (by first | (with_reducible assumption) | assumption)
                              obtain ⟨ad226, A226_0, c226_0, e226, hx226_0, hl226_0, hi226_0⟩ := at_L3 (Kd.S_reads' HO_3.out).2.2 x44_2 p226 q226
                              cases e226
                              obtain ⟨ce226, hce226, hMe226, hcc226⟩ := Kd.S_get HO_3.out [] x44_2 p226 (by first | exact q226 | exact of_decide_eq_true (by first | (with_reducible assumption) | assumption) | (have e_ := (Kd.S_reads' HO_3.out).1; omega))
                              obtain ⟨ve226_0, rfl, ge226_0⟩ := hMe226
                              have hv226_0 := hcc226 0 _ rfl
                              rw [Nat.add_zero, show ((Kd.slice 24 k24)).sz = 1 from rfl, Nat.mul_one] at hv226_0
                              replace hv226_0 := Option.some.inj (hv226_0.symm.trans hx226_0)
                              rw [hv226_0] at ge226_0
                              have HL226_0 := Aside0.mk (show Kd.R k24 24 _ _ _ _ (rd_L3 t217 x44_2) from ge226_0)
                              clear hv226_0 ge226_0
                              clear hcc226 hce226
                              have HR226_0 := Aside0.mk hi226_0
                              have HC226_0 := Aside0.mk hl226_0
                              clear hi226_0 hl226_0
                              replace p226 := eq_true p226
                              replace q226 := eq_true q226
                              have p227 : 0 ≤ (x44_2 : Int) := of_decide_eq_true (by first | (with_reducible assumption) | assumption)
                              have q227 : x44_2 < (t223.length : Int) := of_decide_eq_true (by first | (with_reducible assumption) | assumption)
                              obtain ⟨ad227, A227_0, c227_0, e227, hx227_0, hl227_0, hi227_0⟩ := at_L3 (Kd.S_reads' HO_5.out).2.2 x44_2 p227 q227
                              cases e227
                              obtain ⟨ce227, hce227, hMe227, hcc227⟩ := Kd.S_get HO_5.out [] x44_2 p227 (by first | exact q227 | exact of_decide_eq_true (by first | (with_reducible assumption) | assumption) | (have e_ := (Kd.S_reads' HO_5.out).1; omega))
                              obtain ⟨ve227_0, rfl, ge227_0⟩ := hMe227
                              have hv227_0 := hcc227 0 _ rfl
                              rw [Nat.add_zero, show ((Kd.slice 24 k24)).sz = 1 from rfl, Nat.mul_one] at hv227_0
                              replace hv227_0 := Option.some.inj (hv227_0.symm.trans hx227_0)
                              rw [hv227_0] at ge227_0
                              have HL227_0 := Aside0.mk (show Kd.R k24 24 _ _ _ _ (rd_L3 t223 x44_2) from ge227_0)
                              clear hv227_0 ge227_0
                              clear hcc227 hce227
                              have HR227_0 := Aside0.mk hi227_0
                              have HC227_0 := Aside0.mk hl227_0
                              clear hi227_0 hl227_0
                              replace p227 := eq_true p227
                              replace q227 := eq_true q227
                              refine start_ (n := 10) (S := fun w' => w'.cell? (ad226.add (x44_2).toNat) = some (.slice A226_0 (rd_L3 t217 x44_2).length c226_0) ∧ w'.cell? (ad227.add (x44_2).toNat) = some (.slice A227_0 (rd_L3 t223 x44_2).length c227_0)) (ds := []) #[false, false, false, false, false, false, false, false, false, false] (by kernel_rfl) rfl rfl ⟨hx226_0, hx227_0⟩ (fun hHeld => ?_); refine with_tabW glossatorlaw3_DepgraphLevels.tab13 glossatorlaw3_DepgraphLevels.bits13 (fun HT_ HW_ => ?_)
                              generalize wr.drew = w47 at HO_3 HO_5 HB HL226_0 HL227_0 HR226_0 HR227_0 hx226_0 hx227_0 hHeld ⊢
                              refine pure_ (i := 0) (N := some 47) (v := ?_) (a' := ?_) #[true, false, false, false, false, false, false, false, false, false] rfl rfl (any_of HT_.out (by kernel_rfl)) (fun _ _ _ h => h) (Or.inl ⟨by rfl, ?_⟩) ?_ ?_
                              rotate_left
                              · intro w'
                                go_simp
                                with_reducible rfl
                              rotate_left
                              · simp only [Act.put, List.setIfInBounds_toArray, List.set_cons_zero, List.set_cons_succ, i64_w, i32_w]
                                rfl
                              refine pure_ (i := 1) (N := some 48) (v := ?_) (a' := ?_) #[true, true, false, false, false, false, false, false, false, false] rfl rfl (any_of HT_.out (by kernel_rfl)) (fun _ _ _ h => h) (Or.inl ⟨by rfl, ?_⟩) ?_ ?_
                              rotate_left
                              · intro w'
                                go_simp
                                with_reducible rfl
                              rotate_left
                              · simp only [Act.put, List.setIfInBounds_toArray, List.set_cons_zero, List.set_cons_succ, i64_w, i32_w]
                                rfl
                              refine pure_ (i := 2) (N := some 49) (v := ?_) (a' := ?_) #[true, true, true, false, false, false, false, false, false, false] rfl rfl (any_of HT_.out (by kernel_rfl)) (fun _ _ _ h => h) (Or.inl ⟨by rfl, ?_⟩) ?_ ?_
                              rotate_left
                              · intro w'
                                go_simp
                                with_reducible rfl
                              rotate_left
                              · simp only [Act.put, List.setIfInBounds_toArray, List.set_cons_zero, List.set_cons_succ, i64_w, i32_w]
                                rfl
                              refine pure_ (i := 4) (N := some 51) (v := ?_) (a' := ?_) #[true, true, true, false, true, false, false, false, false, false] rfl rfl (any_of HT_.out (by kernel_rfl)) (fun _ _ _ h => h) (Or.inl ⟨by rfl, ?_⟩) ?_ ?_
                              rotate_left
                              · intro w'
                                go_simp
                                with_reducible rfl
                              rotate_left
                              · simp only [Act.put, List.setIfInBounds_toArray, List.set_cons_zero, List.set_cons_succ, i64_w, i32_w]
                                rfl
                              refine pure_ (i := 5) (N := some 52) (v := ?_) (a' := ?_) #[true, true, true, false, true, true, false, false, false, false] rfl rfl (any_of HT_.out (by kernel_rfl)) (fun _ _ _ h => h) (Or.inl ⟨by rfl, ?_⟩) ?_ ?_
                              rotate_left
                              · intro w'
                                go_simp
                                with_reducible rfl
                              rotate_left
                              · simp only [Act.put, List.setIfInBounds_toArray, List.set_cons_zero, List.set_cons_succ, i64_w, i32_w]
                                rfl
                              refine pure_ (i := 6) (N := some 53) (v := ?_) (a' := ?_) #[true, true, true, false, true, true, true, false, false, false] rfl rfl (any_of HT_.out (by kernel_rfl)) (fun _ _ _ h => h) (Or.inl ⟨by rfl, ?_⟩) ?_ ?_
                              rotate_left
                              · intro w'
                                go_simp
                                with_reducible rfl
                              rotate_left
                              · simp only [Act.put, List.setIfInBounds_toArray, List.set_cons_zero, List.set_cons_succ, i64_w, i32_w]
                                rfl
                              refine take_ (i := 3) (N := some 50) (v := ?_) (a' := ?_) #[true, true, true, true, true, true, true, false, false, false] rfl rfl (take_ofW HT_.out HW_.out (by kernel_rfl)) (fun _ _ _ h => h) (Or.inl ⟨by rfl, ?_⟩) hHeld ?_ ?_
                              rotate_left
                              · rintro w' ⟨s0, s1⟩
                                go_simp
                                with_reducible rfl
                              rotate_left
                              · simp only [Act.put, List.setIfInBounds_toArray, List.set_cons_zero, List.set_cons_succ, i64_w, i32_w]
                                rfl
                              refine take_ (i := 7) (N := some 54) (v := ?_) (a' := ?_) #[true, true, true, true, true, true, true, true, false, false] rfl rfl (take_ofW HT_.out HW_.out (by kernel_rfl)) (fun _ _ _ h => h) (Or.inl ⟨by rfl, ?_⟩) hHeld ?_ ?_
                              rotate_left
                              · rintro w' ⟨s0, s1⟩
                                go_simp
                                with_reducible rfl
                              rotate_left
                              · simp only [Act.put, List.setIfInBounds_toArray, List.set_cons_zero, List.set_cons_succ, i64_w, i32_w]
                                rfl
                              refine one_ (i := 8) (N := some 55) #[true, true, true, true, true, true, true, true, true, false] rfl rfl (one_of HT_.out (by kernel_rfl)) (by decide) (fun K hK => ?_)
                              refine goes_ Try.func8 (by kernel_rfl) rfl #[.slice A226_0 (rd_L3 t217 x44_2).length c226_0, .slice A227_0 (rd_L3 t223 x44_2).length c227_0] (by rfl) rfl rfl (by (try simp only [List.map_toArray, List.map_cons, List.map_nil]); first | done | rfl | (simp only [List.length_drop, List.length_take]; rfl)) ?_
                              with_reducible refine (api_QKey_8.calls k2 _ _ (rd_L3 t217 x44_2) _ _ (rd_L3 t223 x44_2) true _ ?side1 ?side2 ?side3 ?side4 A45.out).mono ?_
                              (case side1 => repeat (first | exact (by repeat (first | (with_reducible exact HR226_0.out) | (with_reducible refine Kd.C_alloc ?_ _) | (with_reducible refine Kd.C_drewN ?_ _) | (with_reducible refine Kd.C_drew ?_) | exact HR226_0.out)) | (with_reducible refine Kd.C_alloc ?_ _) | (with_reducible refine Kd.C_drewN ?_ _) | (with_reducible refine Kd.C_drew ?_)))
                              (case side2 => exact HC226_0.out)
                              (case side3 => repeat (first | exact (by repeat (first | (with_reducible exact HR227_0.out) | (with_reducible refine Kd.C_alloc ?_ _) | (with_reducible refine Kd.C_drewN ?_ _) | (with_reducible refine Kd.C_drew ?_) | exact HR227_0.out)) | (with_reducible refine Kd.C_alloc ?_ _) | (with_reducible refine Kd.C_drewN ?_ _) | (with_reducible refine Kd.C_drew ?_)))
                              (case side4 => exact HC227_0.out)
                              rintro e w49 ⟨rfl, hb⟩
                              have HS0_ := (hb.cell (World.block_lt_of_cell? _ _ (hHeld.1))).trans (hHeld.1)
                              have HS1_ := (hb.cell (World.block_lt_of_cell? _ _ (hHeld.2))).trans (hHeld.2)
                              refine ⟨_, rfl, ?_⟩
                              have n0_ := Aside0.mk (Kd.S_below (by (with_reducible repeat (first | apply Kd.S_alloc | apply Kd.S_drewN | apply Kd.S_drew)); exact HO_3.out) hb)
                              have n1_ := Aside0.mk (Kd.S_below (by (with_reducible repeat (first | apply Kd.S_alloc | apply Kd.S_drewN | apply Kd.S_drew)); exact HO_5.out) hb)
                              have n2_ := Aside0.mk (Kd.R_below (by (with_reducible repeat (first | apply Kd.R_alloc | apply Kd.R_drewN | apply Kd.R_drew)); exact HL226_0.out) hb)
                              have n3_ := Aside0.mk (Kd.R_below (by (with_reducible repeat (first | apply Kd.R_alloc | apply Kd.R_drewN | apply Kd.R_drew)); exact HL227_0.out) hb)
                              have n4_ := Aside0.mk (Kd.C_below (by repeat (first | (with_reducible exact HR226_0.out) | (with_reducible refine Kd.C_alloc ?_ _) | (with_reducible refine Kd.C_drewN ?_ _) | (with_reducible refine Kd.C_drew ?_) | exact HR226_0.out)) hb)
                              have n5_ := Aside0.mk (Kd.C_below (by repeat (first | (with_reducible exact HR227_0.out) | (with_reducible refine Kd.C_alloc ?_ _) | (with_reducible refine Kd.C_drewN ?_ _) | (with_reducible refine Kd.C_drew ?_) | exact HR227_0.out)) hb)
                              have n6_ := Aside0.mk (below_step (by repeat (first | (with_reducible first | exact HB.out | apply below_alloc | apply pw_below_drewN | apply below_drew1) | exact HB.out)) hb)
                              clear HO_3
                              clear HO_5
                              clear HL226_0
                              clear HL227_0
                              clear HR226_0
                              clear HR227_0
                              clear HB
                              have HO_3 := n0_
                              have HO_5 := n1_
                              have HL226_0 := n2_
                              have HL227_0 := n3_
                              have HR226_0 := n4_
                              have HR227_0 := n5_
                              have HB := n6_
                              clear n0_ n1_ n2_ n3_ n4_ n5_ n6_
                              (try clear hb)
                              (try clear hb2)
                              (try clear hk)
                              (try clear hi)
                              refine hK.out _ _ ⟨HS0_, HS1_⟩ (fun hHeld => ?_)
                              clear hK K
                              refine norm_ (a' := ?_) ?_ ?_
                              rotate_left
                              · show Act.put _ (some 55) _ = _
                                simp only [Act.put, List.setIfInBounds_toArray, List.set_cons_zero, List.set_cons_succ, i64_w, i32_w]
                                rfl
                              refine pure_ (i := 9) (N := some 56) (v := ?_) (a' := ?_) #[true, true, true, true, true, true, true, true, true, true] rfl rfl (any_of HT_.out (by kernel_rfl)) (fun _ _ _ h => h) (Or.inl ⟨by rfl, ?_⟩) ?_ ?_
                              rotate_left
                              · intro w'
                                go_simp
                                with_reducible rfl
                              rotate_left
                              · simp only [Act.put, List.setIfInBounds_toArray, List.set_cons_zero, List.set_cons_succ, i64_w, i32_w]
                                rfl
                              refine done_ (done_of HT_.out (by kernel_rfl)) ?_
                              try go_wp2
                              go_roundg k2
                              case measure => have := HJ29.out; have := HK2.out; omega
                              case rel => exact ⟨(wrap64 (x44_2 + 1)), (by first | rfl | (simp; done) | (simp [*]; done) | (simp [isEmpty_bne]; done)), H', ⟨by have := HJ29.out; have := HK2.out; omega⟩, ⟨by (with_reducible repeat (first | apply Kd.S_alloc | apply Kd.S_drewN | apply Kd.S_drew)); exact HO_3.out⟩, ⟨by (with_reducible repeat (first | apply Kd.S_alloc | apply Kd.S_drewN | apply Kd.S_drew)); exact HO_5.out⟩, ⟨by repeat (first | (with_reducible first | exact HB.out | apply below_alloc | apply pw_below_drewN | apply below_drew1) | exact HB.out)⟩⟩
                            · replace c46 := Bool.eq_false_iff.mpr c46
                              subst c46
                              have H1 : (some false) = some r := by rw [if_neg (show ¬ (false = true) by decide)] at H; exact H
                              clear H
                              have H := H1
                              clear H1
                              obtain rfl := Option.some.inj H
                              try go_wp2
                              have n0_ := Aside0.mk (Kd.S_drew HO_3.out)
                              have n1_ := Aside0.mk (Kd.S_drew HO_5.out)
                              have n2_ := Aside0.mk (below_drew1 HB.out)
                              clear HO_3
                              clear HO_5
                              clear HB
                              have HO_3 := n0_
                              have HO_5 := n1_
                              have HB := n2_
                              clear n0_ n1_ n2_
                              obtain ⟨Ao51, co51, eo51⟩ := Kd.S_slice HO_3.out
                              (first | subst eo51 | (injection eo51 with f1_ f2_ f3_; have f4_ := f1_.symm; have f5_ := f3_.symm; clear f1_ f2_ f3_; subst f4_; subst f5_))
                              have p226 : 0 ≤ (x44_2 : Int) := of_decide_eq_true (by first | (with_reducible assumption) | assumption)
                              have q226 : x44_2 < (t217.length : Int) := of_decide_eq_true (by first | (with_reducible assumption) | assumption)
                              obtain ⟨ad226, A226_0, c226_0, e226, hx226_0, hl226_0, hi226_0⟩ := at_L3 (Kd.S_reads' HO_3.out).2.2 x44_2 p226 q226
                              cases e226
                              obtain ⟨ce226, hce226, hMe226, hcc226⟩ := Kd.S_get HO_3.out [] x44_2 p226 (by first | exact q226 | exact of_decide_eq_true (by first | (with_reducible assumption) | assumption) | (have e_ := (Kd.S_reads' HO_3.out).1; omega))
                              obtain ⟨ve226_0, rfl, ge226_0⟩ := hMe226
                              have hv226_0 := hcc226 0 _ rfl
                              rw [Nat.add_zero, show ((Kd.slice 24 k24)).sz = 1 from rfl, Nat.mul_one] at hv226_0
                              replace hv226_0 := Option.some.inj (hv226_0.symm.trans hx226_0)
                              rw [hv226_0] at ge226_0
                              have HL226_0 := Aside0.mk (show Kd.R k24 24 _ _ _ _ (rd_L3 t217 x44_2) from ge226_0)
                              clear hv226_0 ge226_0
                              clear hcc226 hce226
                              have HR226_0 := Aside0.mk hi226_0
                              have HC226_0 := Aside0.mk hl226_0
                              clear hi226_0 hl226_0
                              replace p226 := eq_true p226
                              replace q226 := eq_true q226
                              have p227 : 0 ≤ (x44_2 : Int) := of_decide_eq_true (by first | (with_reducible assumption) | assumption)
                              have q227 : x44_2 < (t223.length : Int) := of_decide_eq_true (by first | (with_reducible assumption) | assumption)
                              obtain ⟨ad227, A227_0, c227_0, e227, hx227_0, hl227_0, hi227_0⟩ := at_L3 (Kd.S_reads' HO_5.out).2.2 x44_2 p227 q227
                              cases e227
                              obtain ⟨ce227, hce227, hMe227, hcc227⟩ := Kd.S_get HO_5.out [] x44_2 p227 (by first | exact q227 | exact of_decide_eq_true (by first | (with_reducible assumption) | assumption) | (have e_ := (Kd.S_reads' HO_5.out).1; omega))
                              obtain ⟨ve227_0, rfl, ge227_0⟩ := hMe227
                              have hv227_0 := hcc227 0 _ rfl
                              rw [Nat.add_zero, show ((Kd.slice 24 k24)).sz = 1 from rfl, Nat.mul_one] at hv227_0
                              replace hv227_0 := Option.some.inj (hv227_0.symm.trans hx227_0)
                              rw [hv227_0] at ge227_0
                              have HL227_0 := Aside0.mk (show Kd.R k24 24 _ _ _ _ (rd_L3 t223 x44_2) from ge227_0)
                              clear hv227_0 ge227_0
                              clear hcc227 hce227
                              have HR227_0 := Aside0.mk hi227_0
                              have HC227_0 := Aside0.mk hl227_0
                              clear hi227_0 hl227_0
                              replace p227 := eq_true p227
                              replace q227 := eq_true q227
                              refine start_ (n := 10) (S := fun w' => w'.cell? (ad226.add (x44_2).toNat) = some (.slice A226_0 (rd_L3 t217 x44_2).length c226_0) ∧ w'.cell? (ad227.add (x44_2).toNat) = some (.slice A227_0 (rd_L3 t223 x44_2).length c227_0)) (ds := []) #[false, false, false, false, false, false, false, false, false, false] (by kernel_rfl) rfl rfl ⟨hx226_0, hx227_0⟩ (fun hHeld => ?_); refine with_tabW glossatorlaw3_DepgraphLevels.tab13 glossatorlaw3_DepgraphLevels.bits13 (fun HT_ HW_ => ?_)
                              generalize wr.drew = w50 at HO_3 HO_5 HB HL226_0 HL227_0 HR226_0 HR227_0 hx226_0 hx227_0 hHeld ⊢
                              refine pure_ (i := 0) (N := some 47) (v := ?_) (a' := ?_) #[true, false, false, false, false, false, false, false, false, false] rfl rfl (any_of HT_.out (by kernel_rfl)) (fun _ _ _ h => h) (Or.inl ⟨by rfl, ?_⟩) ?_ ?_
                              rotate_left
                              · intro w'
                                go_simp
                                with_reducible rfl
                              rotate_left
                              · simp only [Act.put, List.setIfInBounds_toArray, List.set_cons_zero, List.set_cons_succ, i64_w, i32_w]
                                rfl
                              refine pure_ (i := 1) (N := some 48) (v := ?_) (a' := ?_) #[true, true, false, false, false, false, false, false, false, false] rfl rfl (any_of HT_.out (by kernel_rfl)) (fun _ _ _ h => h) (Or.inl ⟨by rfl, ?_⟩) ?_ ?_
                              rotate_left
                              · intro w'
                                go_simp
                                with_reducible rfl
                              rotate_left
                              · simp only [Act.put, List.setIfInBounds_toArray, List.set_cons_zero, List.set_cons_succ, i64_w, i32_w]
                                rfl
                              refine pure_ (i := 2) (N := some 49) (v := ?_) (a' := ?_) #[true, true, true, false, false, false, false, false, false, false] rfl rfl (any_of HT_.out (by kernel_rfl)) (fun _ _ _ h => h) (Or.inl ⟨by rfl, ?_⟩) ?_ ?_
                              rotate_left
                              · intro w'
                                go_simp
                                with_reducible rfl
                              rotate_left
                              · simp only [Act.put, List.setIfInBounds_toArray, List.set_cons_zero, List.set_cons_succ, i64_w, i32_w]
                                rfl
                              refine pure_ (i := 4) (N := some 51) (v := ?_) (a' := ?_) #[true, true, true, false, true, false, false, false, false, false] rfl rfl (any_of HT_.out (by kernel_rfl)) (fun _ _ _ h => h) (Or.inl ⟨by rfl, ?_⟩) ?_ ?_
                              rotate_left
                              · intro w'
                                go_simp
                                with_reducible rfl
                              rotate_left
                              · simp only [Act.put, List.setIfInBounds_toArray, List.set_cons_zero, List.set_cons_succ, i64_w, i32_w]
                                rfl
                              refine pure_ (i := 5) (N := some 52) (v := ?_) (a' := ?_) #[true, true, true, false, true, true, false, false, false, false] rfl rfl (any_of HT_.out (by kernel_rfl)) (fun _ _ _ h => h) (Or.inl ⟨by rfl, ?_⟩) ?_ ?_
                              rotate_left
                              · intro w'
                                go_simp
                                with_reducible rfl
                              rotate_left
                              · simp only [Act.put, List.setIfInBounds_toArray, List.set_cons_zero, List.set_cons_succ, i64_w, i32_w]
                                rfl
                              refine pure_ (i := 6) (N := some 53) (v := ?_) (a' := ?_) #[true, true, true, false, true, true, true, false, false, false] rfl rfl (any_of HT_.out (by kernel_rfl)) (fun _ _ _ h => h) (Or.inl ⟨by rfl, ?_⟩) ?_ ?_
                              rotate_left
                              · intro w'
                                go_simp
                                with_reducible rfl
                              rotate_left
                              · simp only [Act.put, List.setIfInBounds_toArray, List.set_cons_zero, List.set_cons_succ, i64_w, i32_w]
                                rfl
                              refine take_ (i := 3) (N := some 50) (v := ?_) (a' := ?_) #[true, true, true, true, true, true, true, false, false, false] rfl rfl (take_ofW HT_.out HW_.out (by kernel_rfl)) (fun _ _ _ h => h) (Or.inl ⟨by rfl, ?_⟩) hHeld ?_ ?_
                              rotate_left
                              · rintro w' ⟨s0, s1⟩
                                go_simp
                                with_reducible rfl
                              rotate_left
                              · simp only [Act.put, List.setIfInBounds_toArray, List.set_cons_zero, List.set_cons_succ, i64_w, i32_w]
                                rfl
                              refine take_ (i := 7) (N := some 54) (v := ?_) (a' := ?_) #[true, true, true, true, true, true, true, true, false, false] rfl rfl (take_ofW HT_.out HW_.out (by kernel_rfl)) (fun _ _ _ h => h) (Or.inl ⟨by rfl, ?_⟩) hHeld ?_ ?_
                              rotate_left
                              · rintro w' ⟨s0, s1⟩
                                go_simp
                                with_reducible rfl
                              rotate_left
                              · simp only [Act.put, List.setIfInBounds_toArray, List.set_cons_zero, List.set_cons_succ, i64_w, i32_w]
                                rfl
                              refine one_ (i := 8) (N := some 55) #[true, true, true, true, true, true, true, true, true, false] rfl rfl (one_of HT_.out (by kernel_rfl)) (by decide) (fun K hK => ?_)
                              refine goes_ Try.func8 (by kernel_rfl) rfl #[.slice A226_0 (rd_L3 t217 x44_2).length c226_0, .slice A227_0 (rd_L3 t223 x44_2).length c227_0] (by rfl) rfl rfl (by (try simp only [List.map_toArray, List.map_cons, List.map_nil]); first | done | rfl | (simp only [List.length_drop, List.length_take]; rfl)) ?_
                              with_reducible refine (api_QKey_8.calls k2 _ _ (rd_L3 t217 x44_2) _ _ (rd_L3 t223 x44_2) false _ ?side1 ?side2 ?side3 ?side4 A45.out).mono ?_
                              (case side1 => repeat (first | exact (by repeat (first | (with_reducible exact HR226_0.out) | (with_reducible refine Kd.C_alloc ?_ _) | (with_reducible refine Kd.C_drewN ?_ _) | (with_reducible refine Kd.C_drew ?_) | exact HR226_0.out)) | (with_reducible refine Kd.C_alloc ?_ _) | (with_reducible refine Kd.C_drewN ?_ _) | (with_reducible refine Kd.C_drew ?_)))
                              (case side2 => exact HC226_0.out)
                              (case side3 => repeat (first | exact (by repeat (first | (with_reducible exact HR227_0.out) | (with_reducible refine Kd.C_alloc ?_ _) | (with_reducible refine Kd.C_drewN ?_ _) | (with_reducible refine Kd.C_drew ?_) | exact HR227_0.out)) | (with_reducible refine Kd.C_alloc ?_ _) | (with_reducible refine Kd.C_drewN ?_ _) | (with_reducible refine Kd.C_drew ?_)))
                              (case side4 => exact HC227_0.out)
                              rintro e w52 ⟨rfl, hb⟩
                              have HS0_ := (hb.cell (World.block_lt_of_cell? _ _ (hHeld.1))).trans (hHeld.1)
                              have HS1_ := (hb.cell (World.block_lt_of_cell? _ _ (hHeld.2))).trans (hHeld.2)
                              refine ⟨_, rfl, ?_⟩
                              have n0_ := Aside0.mk (Kd.S_below (by (with_reducible repeat (first | apply Kd.S_alloc | apply Kd.S_drewN | apply Kd.S_drew)); exact HO_3.out) hb)
                              have n1_ := Aside0.mk (Kd.S_below (by (with_reducible repeat (first | apply Kd.S_alloc | apply Kd.S_drewN | apply Kd.S_drew)); exact HO_5.out) hb)
                              have n2_ := Aside0.mk (Kd.R_below (by (with_reducible repeat (first | apply Kd.R_alloc | apply Kd.R_drewN | apply Kd.R_drew)); exact HL226_0.out) hb)
                              have n3_ := Aside0.mk (Kd.R_below (by (with_reducible repeat (first | apply Kd.R_alloc | apply Kd.R_drewN | apply Kd.R_drew)); exact HL227_0.out) hb)
                              have n4_ := Aside0.mk (Kd.C_below (by repeat (first | (with_reducible exact HR226_0.out) | (with_reducible refine Kd.C_alloc ?_ _) | (with_reducible refine Kd.C_drewN ?_ _) | (with_reducible refine Kd.C_drew ?_) | exact HR226_0.out)) hb)
                              have n5_ := Aside0.mk (Kd.C_below (by repeat (first | (with_reducible exact HR227_0.out) | (with_reducible refine Kd.C_alloc ?_ _) | (with_reducible refine Kd.C_drewN ?_ _) | (with_reducible refine Kd.C_drew ?_) | exact HR227_0.out)) hb)
                              have n6_ := Aside0.mk (below_step (by repeat (first | (with_reducible first | exact HB.out | apply below_alloc | apply pw_below_drewN | apply below_drew1) | exact HB.out)) hb)
                              clear HO_3
                              clear HO_5
                              clear HL226_0
                              clear HL227_0
                              clear HR226_0
                              clear HR227_0
                              clear HB
                              have HO_3 := n0_
                              have HO_5 := n1_
                              have HL226_0 := n2_
                              have HL227_0 := n3_
                              have HR226_0 := n4_
                              have HR227_0 := n5_
                              have HB := n6_
                              clear n0_ n1_ n2_ n3_ n4_ n5_ n6_
                              (try clear hb)
                              (try clear hb2)
                              (try clear hk)
                              (try clear hi)
                              refine hK.out _ _ ⟨HS0_, HS1_⟩ (fun hHeld => ?_)
                              clear hK K
                              refine norm_ (a' := ?_) ?_ ?_
                              rotate_left
                              · show Act.put _ (some 55) _ = _
                                simp only [Act.put, List.setIfInBounds_toArray, List.set_cons_zero, List.set_cons_succ, i64_w, i32_w]
                                rfl
                              refine pure_ (i := 9) (N := some 56) (v := ?_) (a' := ?_) #[true, true, true, true, true, true, true, true, true, true] rfl rfl (any_of HT_.out (by kernel_rfl)) (fun _ _ _ h => h) (Or.inl ⟨by rfl, ?_⟩) ?_ ?_
                              rotate_left
                              · intro w'
                                go_simp
                                with_reducible rfl
                              rotate_left
                              · simp only [Act.put, List.setIfInBounds_toArray, List.set_cons_zero, List.set_cons_succ, i64_w, i32_w]
                                rfl
                              refine done_ (done_of HT_.out (by kernel_rfl)) ?_
                              try go_wp2
                              go_ret
                              exact ⟨by first | rfl | (simp [errW_none, errW_some] <;> rfl) | (simp only [← hji4]; first | rfl | (simp [errW_none, errW_some] <;> rfl)) | (simp [*, errW_none, errW_some] <;> rfl), by repeat (first | (with_reducible first | exact HB.out | apply below_alloc | apply pw_below_drewN | apply below_drew1) | exact HB.out)⟩
                          · rw [if_neg c44] at H
                            exact absurd H (by simp)
                        · rw [if_neg c43] at H
                          exact absurd H (by simp)
                      · rw [if_neg c42] at H
                        exact absurd H (by simp)
                    · rw [if_neg c41] at H
                      have c41b0 : decide (x44_2 < (t223.length : Int)) = false := decide_eq_false c41
                      clear c41
                      replace H := Option.bind_eq_some_iff.mp H
                      obtain ⟨t229, A530, H⟩ := H
                      replace H : (some t229) = some r := H
                      have A53 := Aside0.mk A530
                      clear A530
                      obtain rfl := Option.some.inj H
                      go_wp2_with (first | ((with_reducible refine gate_callee (f := 7) rfl ?_); refine goesL_ (some 58) rfl rfl Try.func7 (by kernel_rfl) rfl #[] rfl (by (try simp only [List.map_toArray, List.map_cons, List.map_nil]); first | done | rfl | (simp only [List.length_drop, List.length_take]; rfl)) ?_; (with_reducible refine (glossatorlaw3_graphExample.calls k2  t229 _ A53.out).mono ?_); rintro e w54 ⟨rfl, hb⟩; refine ⟨_, rfl, ?_⟩; have n0_ := Aside0.mk (Kd.S_below (by (with_reducible repeat (first | apply Kd.S_alloc | apply Kd.S_drewN | apply Kd.S_drew)); exact HO_3.out) hb); have n1_ := Aside0.mk (Kd.S_below (by (with_reducible repeat (first | apply Kd.S_alloc | apply Kd.S_drewN | apply Kd.S_drew)); exact HO_5.out) hb); have n2_ := Aside0.mk (below_step (by repeat (first | (with_reducible first | exact HB.out | apply below_alloc | apply pw_below_drewN | apply below_drew1) | exact HB.out)) hb); clear HO_3; clear HO_5; clear HB; have HO_3 := n0_; have HO_5 := n1_; have HB := n2_; clear n0_ n1_ n2_; (try clear hb); (try clear hb2); (try clear hk); (try clear hi)))
                      go_ret
                      exact ⟨by first | rfl | (simp [errW_none, errW_some] <;> rfl) | (simp only [← hji4]; first | rfl | (simp [errW_none, errW_some] <;> rfl)) | (simp [*, errW_none, errW_some] <;> rfl), by repeat (first | (with_reducible first | exact HB.out | apply below_alloc | apply pw_below_drewN | apply below_drew1) | exact HB.out)⟩
      · rw [if_neg c6] at H
        exact absurd H (by simp)
    · rw [if_neg c5] at H
      exact absurd H (by simp)
  · replace c3 := Bool.eq_false_iff.mpr c3
    subst c3
    have H1 : (some false) = some r := by rw [if_neg (show ¬ (false = true) by decide)] at H; exact H
    clear H
    have H := H1
    clear H1
    obtain rfl := Option.some.inj H
    go_enter Try.func5, Try.ntmps5
    go_wp2_with (first | ((with_reducible refine gate_callee (f := 7) rfl ?_); refine goesL_ (some 7) rfl rfl Try.func7 (by kernel_rfl) rfl #[] rfl (by (try simp only [List.map_toArray, List.map_cons, List.map_nil]); first | done | rfl | (simp only [List.length_drop, List.length_take]; rfl)) ?_; (with_reducible refine (glossatorlaw3_graphExample.calls k  false _ A2.out).mono ?_); rintro e w55 ⟨rfl, hb⟩; refine ⟨_, rfl, ?_⟩; have n0_ := Aside0.mk (below_step (by repeat (first | (with_reducible first | exact HB.out | apply below_alloc | apply pw_below_drewN | apply below_drew1) | exact HB.out)) hb); clear HB; have HB := n0_; clear n0_; (try clear hb); (try clear hb2); (try clear hk); (try clear hi)))
    go_ret
    exact ⟨by first | rfl | (simp [errW_none, errW_some] <;> rfl) | (simp [*, errW_none, errW_some] <;> rfl), by repeat (first | (with_reducible first | exact HB.out | apply below_alloc | apply pw_below_drewN | apply below_drew1) | exact HB.out)⟩

end Go.Proofs.Ytofonbfpjfabbaa.QDepgraphLevels
