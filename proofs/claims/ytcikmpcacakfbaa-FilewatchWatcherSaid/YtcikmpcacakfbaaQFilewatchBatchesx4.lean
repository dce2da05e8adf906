-- Written by gen.py (this repo's wip/), which runs the kit's print.py with more arms. Lean checks it.
import Derived.Test.YtcikmpcacakfbaaQFilewatchBatchesx0
import Derived.Test.YtcikmpcacakfbaaQFilewatchBatchesx3
namespace Go.Proofs.Ytcikmpcacakfbaa.QFilewatchBatches
open Go.RowKit Go.Proofs.YtcikmpcacakfbaaW.PrintWords Go.Proofs.YtcikmpcacakfbaaW.PrintLast Go.Proofs.YtcikmpcacakfbaaW.PrintMore
attribute [local go_sem] max2_int min2_int max_two min_two max_three min_three max_four min_four   -- for this text's walks alone
set_option linter.unusedVariables false
set_option linter.unusedSimpArgs false

private theorem isEmpty_bne {α : Type} [BEq α] (l : List α) : (l != []) = !l.isEmpty := by cases l <;> rfl

/-! ### glossatorlaw3_watchExample: function 16 -/
def glossatorlaw3_watchExample.f (k : Nat)  : Option (Bool) := (filewatch_Batches.f k (([(⟨0, (⟨#[97]⟩ : ByteArray), 1⟩ : S58), (⟨50, (⟨#[97]⟩ : ByteArray), 2⟩ : S58), (⟨200, (⟨#[98]⟩ : ByteArray), 3⟩ : S58)] : List (S58))) 100).bind fun bt135 => (if bt135.2 = 0 then (if (bt135.1.length : Int) = 2 then (if 0 < (bt135.1.length : Int) then (if ((rd_T60 bt135.1 0).f0) = 150 then ((api_QFileEvent_45.f k ((rd_T60 bt135.1 0).f1) (([(⟨50, (⟨#[97]⟩ : ByteArray), 1⟩ : S58)] : List (S58)))).bind fun t144 => (if t144 = true then (if 1 < (bt135.1.length : Int) then (some (((rd_T60 bt135.1 1).f0) == 300)) else (none)) else (some false))) else (some false)) else (none)) else (some false)) else (some false))
theorem glossatorlaw3_watchExample.mono : ∀ k, LeO (glossatorlaw3_watchExample.f k ) (glossatorlaw3_watchExample.f (k + 1) ) := by
  intro  k
  unfold glossatorlaw3_watchExample.f
  repeat' first
      | (with_reducible exact api_QFileEvent_45.mono _ _ _)
      | (with_reducible exact filewatch_Batches.mono _ _ _)
      | (with_reducible exact LeO.refl _)
      | (with_reducible exact LeO.none _)
      | (with_reducible refine LeO.ite ?_ ?_)
      | (with_reducible refine LeO.bind ?_ (fun _ => ?_))
      | exact api_QFileEvent_45.mono _ _ _
      | exact filewatch_Batches.mono _ _ _
      | exact LeO.none _
      | refine LeO.ite ?_ ?_
      | refine LeO.bind ?_ (fun _ => ?_)
set_option maxHeartbeats 8000000 in
set_option maxRecDepth 100000 in
theorem glossatorlaw3_watchExample.calls (k : Nat)  (r : Bool) (w : World) (h : glossatorlaw3_watchExample.f k  = some r) :
    Calls Try.prog 16 #[] w fun e w' => e = .returned (.bool r) ∧ Below w.heap.size w w' := by
  have hu58 := Try.underlying58
  have HB := Aside0.mk (Below.refl w.heap.size w)
  have H : ((filewatch_Batches.f k (([(⟨0, (⟨#[97]⟩ : ByteArray), 1⟩ : S58), (⟨50, (⟨#[97]⟩ : ByteArray), 2⟩ : S58), (⟨200, (⟨#[98]⟩ : ByteArray), 3⟩ : S58)] : List (S58))) 100).bind fun bt135 => (if bt135.2 = 0 then (if (bt135.1.length : Int) = 2 then (if 0 < (bt135.1.length : Int) then (if ((rd_T60 bt135.1 0).f0) = 150 then ((api_QFileEvent_45.f k ((rd_T60 bt135.1 0).f1) (([(⟨50, (⟨#[97]⟩ : ByteArray), 1⟩ : S58)] : List (S58)))).bind fun t144 => (if t144 = true then (if 1 < (bt135.1.length : Int) then (some (((rd_T60 bt135.1 1).f0) == 300)) else (none)) else (some false))) else (some false)) else (none)) else (some false)) else (some false))) = some r := h
  clear h
  obtain ⟨y132, hy132⟩ : ∃ y_ : List (S58), y_ = (([(⟨0, (⟨#[97]⟩ : ByteArray), 1⟩ : S58), (⟨50, (⟨#[97]⟩ : ByteArray), 2⟩ : S58), (⟨200, (⟨#[98]⟩ : ByteArray), 3⟩ : S58)] : List (S58))) := ⟨_, rfl⟩
  replace H : ((filewatch_Batches.f k y132 100).bind fun bt135 => (if bt135.2 = 0 then (if (bt135.1.length : Int) = 2 then (if 0 < (bt135.1.length : Int) then (if ((rd_T60 bt135.1 0).f0) = 150 then ((api_QFileEvent_45.f k ((rd_T60 bt135.1 0).f1) (([(⟨50, (⟨#[97]⟩ : ByteArray), 1⟩ : S58)] : List (S58)))).bind fun t144 => (if t144 = true then (if 1 < (bt135.1.length : Int) then (some (((rd_T60 bt135.1 1).f0) == 300)) else (none)) else (some false))) else (some false)) else (none)) else (some false)) else (some false))) = some r := by first | (rw [hy132]; with_reducible exact H) | (have H2_ := (Option.bind_some _ _).symm.trans H; rw [hy132]; with_reducible exact H2_) | (have H2_ := (Option.bind_some _ _).symm.trans H; with_reducible exact H2_) | with_reducible exact H | (rw [hy132]; exact H) | exact H
  have Ny132 := Aside0.mk hy132
  clear hy132
  replace H := Option.bind_eq_some_iff.mp H
  obtain ⟨⟨t135, t136⟩, A10, H⟩ := H
  replace H : (if t136 = 0 then (if (t135.length : Int) = 2 then (if 0 < (t135.length : Int) then (if ((rd_T60 t135 0).f0) = 150 then ((api_QFileEvent_45.f k ((rd_T60 t135 0).f1) (([(⟨50, (⟨#[97]⟩ : ByteArray), 1⟩ : S58)] : List (S58)))).bind fun t144 => (if t144 = true then (if 1 < (t135.length : Int) then (some (((rd_T60 t135 1).f0) == 300)) else (none)) else (some false))) else (some false)) else (none)) else (some false)) else (some false)) = some r := H
  have A1 := Aside0.mk A10
  clear A10
  by_cases c2 : t136 = 0
  · rw [if_pos c2] at H
    have c2b0 : (t136 == 0) = true := beq_iff_eq.mpr c2
    have c2b1 : (t136 != 0) = false := bne_eq_false_iff_eq.mpr c2
    clear c2
    by_cases c3 : (t135.length : Int) = 2
    · rw [if_pos c3] at H
      have c3b0 : ((t135.length : Int) == 2) = true := beq_iff_eq.mpr c3
      have c3b1 : ((t135.length : Int) != 2) = false := bne_eq_false_iff_eq.mpr c3
      clear c3
      by_cases c4 : 0 < (t135.length : Int)
      · rw [if_pos c4] at H
        have c4b0 : decide (0 < (t135.length : Int)) = true := decide_eq_true c4
        have c4b1 : decide (0 < t135.length) = true := decide_eq_true (by omega)
        clear c4
        by_cases c5 : ((rd_T60 t135 0).f0) = 150
        · rw [if_pos c5] at H
          have c5b0 : (((rd_T60 t135 0).f0) == 150) = true := beq_iff_eq.mpr c5
          have c5b1 : (((rd_T60 t135 0).f0) != 150) = false := bne_eq_false_iff_eq.mpr c5
          clear c5
          obtain ⟨y141, hy141⟩ : ∃ y_ : List (S58), y_ = (([(⟨50, (⟨#[97]⟩ : ByteArray), 1⟩ : S58)] : List (S58))) := ⟨_, rfl⟩
          replace H : ((api_QFileEvent_45.f k ((rd_T60 t135 0).f1) y141).bind fun t144 => (if t144 = true then (if 1 < (t135.length : Int) then (some (((rd_T60 t135 1).f0) == 300)) else (none)) else (some false))) = some r := by first | (rw [hy141]; with_reducible exact H) | (have H2_ := (Option.bind_some _ _).symm.trans H; rw [hy141]; with_reducible exact H2_) | (have H2_ := (Option.bind_some _ _).symm.trans H; with_reducible exact H2_) | with_reducible exact H | (rw [hy141]; exact H) | exact H
          have Ny141 := Aside0.mk hy141
          clear hy141
          replace H := Option.bind_eq_some_iff.mp H
          obtain ⟨t144, A60, H⟩ := H
          replace H : (if t144 = true then (if 1 < (t135.length : Int) then (some (((rd_T60 t135 1).f0) == 300)) else (none)) else (some false)) = some r := H
          have A6 := Aside0.mk A60
          clear A60
          by_cases c7 : t144 = true
          · subst c7
            have H1 : (if 1 < (t135.length : Int) then (some (((rd_T60 t135 1).f0) == 300)) else (none)) = some r := by rw [if_pos rfl] at H; exact H
            clear H
            have H := H1
            clear H1
            by_cases c8 : 1 < (t135.length : Int)
            · rw [if_pos c8] at H
              have c8b0 : decide (1 < (t135.length : Int)) = true := decide_eq_true c8
              have c8b1 : decide (1 < t135.length) = true := decide_eq_true (by omega)
              clear c8
              obtain rfl := Option.some.inj H
              go_enter Try.func16, Try.ntmps16
              go_wp2_with (first | ((with_reducible refine gate_dst (N := 7) rfl ?_); (try (refine gate_guard (by rfl) ?_; dsimp only)); refine Kd.R_lit k58 _ 58 ?hg (N := 7) ?hd (xs := ([(⟨0, (⟨#[97]⟩ : ByteArray), 1⟩ : S58), (⟨50, (⟨#[97]⟩ : ByteArray), 2⟩ : S58), (⟨200, (⟨#[98]⟩ : ByteArray), 3⟩ : S58)] : List (S58))) (inner := [.int .i64 0, .string (⟨#[97]⟩ : ByteArray), .int .i64 1, .int .i64 50, .string (⟨#[97]⟩ : ByteArray), .int .i64 2, .int .i64 200, .string (⟨#[98]⟩ : ByteArray), .int .i64 3]) (ok := fun _ => True) (okp := fun _ => True) ?hr ?hp (fun _ hk => hk) trivial (Below.refl _ _) (Nat.le_refl _) (by simp) ?_; (case hd => rfl); (case hg => rfl); (case hr => first | (go_simp; done) | (go_simp; rfl)); (case hp => exact (Reps.c3 (show Kd.M k58 _ _ _ (⟨0, (⟨#[97]⟩ : ByteArray), 1⟩ : S58) [.int .i64 0, .string (⟨#[97]⟩ : ByteArray), .int .i64 1] from (k58_mkM _ _ _ (⟨0, (⟨#[97]⟩ : ByteArray), 1⟩ : S58) )) (Reps.c3 (show Kd.M k58 _ _ _ (⟨50, (⟨#[97]⟩ : ByteArray), 2⟩ : S58) [.int .i64 50, .string (⟨#[97]⟩ : ByteArray), .int .i64 2] from (k58_mkM _ _ _ (⟨50, (⟨#[97]⟩ : ByteArray), 2⟩ : S58) )) (Reps.c3 (show Kd.M k58 _ _ _ (⟨200, (⟨#[98]⟩ : ByteArray), 3⟩ : S58) [.int .i64 200, .string (⟨#[98]⟩ : ByteArray), .int .i64 3] from (k58_mkM _ _ _ (⟨200, (⟨#[98]⟩ : ByteArray), 3⟩ : S58) )) (Reps.none _ _))))); intro v133 w9 ho10 hb hg_ hnew_; clear hg_ hnew_; (first | rw [← Ny132.out] at ho10 | (simp only [Int.reduceToNat] at ho10; rw [← Ny132.out] at ho10)); have n0_ := Aside0.mk (Kd.R_lower ho10 (below_size (by repeat (first | (with_reducible first | exact HB.out | apply below_alloc | apply pw_below_drewN | apply below_drew1) | exact HB.out)))); have n1_ := Aside0.mk (below_step (by repeat (first | (with_reducible first | exact HB.out | apply below_alloc | apply pw_below_drewN | apply below_drew1) | exact HB.out)) hb); clear HB; have HO134 := n0_; have HB := n1_; clear n0_ n1_; clear hb ho10; obtain ⟨Ao11, co11, eo11⟩ := Kd.R_slice HO134.out; subst eo11) | ((with_reducible refine gate_callee (f := 17) rfl ?_); refine goesL_ (some 8) rfl rfl Try.func17 (by kernel_rfl) rfl #[.slice Ao11 y132.length co11, .int .i64 100] rfl (by (try simp only [List.map_toArray, List.map_cons, List.map_nil]); first | done | rfl | (simp only [List.length_drop, List.length_take]; rfl)) ?_; (with_reducible refine (filewatch_Batches.calls k _ _ y132 100 t135 t136 _ ?side1 ?side2 A1.out).mono ?_); (case side1 => repeat (first | exact (Kd.R_reads' HO134.out).2.2 | (with_reducible refine Kd.C_alloc ?_ _) | (with_reducible refine Kd.C_drewN ?_ _) | (with_reducible refine Kd.C_drew ?_))); (case side2 => exact (Kd.R_reads' HO134.out).2.1); rintro e w12 ⟨v137, rfl, ho0, hb⟩; refine ⟨_, rfl, ?_⟩; have n0_ := Aside0.mk (Kd.R_below (by (with_reducible repeat (first | apply Kd.R_alloc | apply Kd.R_drewN | apply Kd.R_drew)); exact HO134.out) hb); have n1_ := Aside0.mk (Kd.S_lower (Kd.S_new' ho0 (Kd.R_lt (by (with_reducible repeat (first | apply Kd.R_alloc | apply Kd.R_drewN | apply Kd.R_drew)); exact HO134.out))) (below_size (by repeat (first | (with_reducible first | exact HB.out | apply below_alloc | apply pw_below_drewN | apply below_drew1) | exact HB.out)))); have n2_ := Aside0.mk (below_step (by repeat (first | (with_reducible first | exact HB.out | apply below_alloc | apply pw_below_drewN | apply below_drew1) | exact HB.out)) hb); clear HO134; clear HB; have HO134 := n0_; have HO138 := n1_; have HB := n2_; clear n0_ n1_ n2_; (try clear hb); (try clear hb2); (try clear hk); (try clear hi); (try clear ho0); obtain ⟨Ao13, co13, eo13⟩ := Kd.S_slice HO138.out; subst eo13; have p139 : 0 ≤ (0 : Int) := (by omega); have q139 : 0 < (t135.length : Int) := of_decide_eq_true (by first | (with_reducible assumption) | assumption); obtain ⟨ad139, A139_1, c139_1, e139, hx139_0, hx139_1, hl139_1, hi139_1⟩ := at_T60 (Kd.S_reads' HO138.out).2.2 0 p139 q139; cases e139; obtain ⟨ce139, hce139, hMe139, hcc139⟩ := Kd.S_get HO138.out z60 0 p139 (by first | exact q139 | exact of_decide_eq_true (by first | (with_reducible assumption) | assumption) | (have e_ := (Kd.S_reads' HO138.out).1; omega)); obtain ⟨ve139_1, rfl, ge139_1⟩ := k60_openM hMe139; have hv139_1 := hcc139 1 _ rfl; rw [add_field _ _ 1 (by omega)] at hv139_1; replace hv139_1 := Option.some.inj (hv139_1.symm.trans hx139_1); rw [hv139_1] at ge139_1; have HL139_1 := Aside0.mk (show Kd.R k58 58 _ _ _ _ ((rd_T60 t135 0).f1) from ge139_1); clear hv139_1 ge139_1; clear hcc139 hce139; have qi139 : (0 < t135.length) = True := eq_true (by omega); (try rw [show ((0 : Int)).toNat = 0 from rfl] at hx139_0); (try rw [show 0 * 2 = 0 from rfl] at hx139_0); (try rw [Addr.add_zero'] at hx139_0); (try rw [show ((0 : Int)).toNat = 0 from rfl] at hx139_1); (try rw [show 0 * 2 = 0 from rfl] at hx139_1); (try rw [Addr.add_zero'] at hx139_1); have HR139_1 := Aside0.mk hi139_1; have HC139_1 := Aside0.mk hl139_1; clear hi139_1 hl139_1; replace p139 := eq_true p139; replace q139 := eq_true q139; have p140 : 0 ≤ (0 : Int) := (by omega); have q140 : 0 < (t135.length : Int) := of_decide_eq_true (by first | (with_reducible assumption) | assumption); obtain ⟨ad140, A140_1, c140_1, e140, hx140_0, hx140_1, hl140_1, hi140_1⟩ := at_T60 (Kd.S_reads' HO138.out).2.2 0 p140 q140; obtain rfl : ad139 = ad140 := (by injection e140); obtain ⟨ce140, hce140, hMe140, hcc140⟩ := Kd.S_get HO138.out z60 0 p140 (by first | exact q140 | exact of_decide_eq_true (by first | (with_reducible assumption) | assumption) | (have e_ := (Kd.S_reads' HO138.out).1; omega)); obtain ⟨ve140_1, rfl, ge140_1⟩ := k60_openM hMe140; have hv140_1 := hcc140 1 _ rfl; rw [add_field _ _ 1 (by omega)] at hv140_1; replace hv140_1 := Option.some.inj (hv140_1.symm.trans hx140_1); rw [hv140_1] at ge140_1; have HL140_1 := Aside0.mk (show Kd.R k58 58 _ _ _ _ ((rd_T60 t135 0).f1) from ge140_1); clear hv140_1 ge140_1; clear hcc140 hce140; have qi140 : (0 < t135.length) = True := eq_true (by omega); (try rw [show ((0 : Int)).toNat = 0 from rfl] at hx140_0); (try rw [show 0 * 2 = 0 from rfl] at hx140_0); (try rw [Addr.add_zero'] at hx140_0); (try rw [show ((0 : Int)).toNat = 0 from rfl] at hx140_1); (try rw [show 0 * 2 = 0 from rfl] at hx140_1); (try rw [Addr.add_zero'] at hx140_1); have HR140_1 := Aside0.mk hi140_1; have HC140_1 := Aside0.mk hl140_1; clear hi140_1 hl140_1; replace p140 := eq_true p140; replace q140 := eq_true q140; have ea_ := Option.some.inj (hx139_1.symm.trans hx140_1); injection ea_ with ea_ en_ ec_; subst ea_; subst ec_; clear en_) | ((with_reducible refine gate_dst (N := 31) rfl ?_); (try (refine gate_guard (by rfl) ?_; dsimp only)); refine Kd.R_lit k58 _ 58 ?hg (N := 31) ?hd (xs := ([(⟨50, (⟨#[97]⟩ : ByteArray), 1⟩ : S58)] : List (S58))) (inner := [.int .i64 50, .string (⟨#[97]⟩ : ByteArray), .int .i64 1]) (ok := fun _ => True) (okp := fun _ => True) ?hr ?hp (fun _ hk => hk) trivial (Below.refl _ _) (Nat.le_refl _) (by simp) ?_; (case hd => rfl); (case hg => rfl); (case hr => first | (go_simp; done) | (go_simp; rfl)); (case hp => exact (Reps.c3 (show Kd.M k58 _ _ _ (⟨50, (⟨#[97]⟩ : ByteArray), 1⟩ : S58) [.int .i64 50, .string (⟨#[97]⟩ : ByteArray), .int .i64 1] from (k58_mkM _ _ _ (⟨50, (⟨#[97]⟩ : ByteArray), 1⟩ : S58) )) (Reps.none _ _))); intro v142 w14 ho15 hb hg_ hnew_; clear hg_ hnew_; (first | rw [← Ny141.out] at ho15 | (simp only [Int.reduceToNat] at ho15; rw [← Ny141.out] at ho15)); have n0_ := Aside0.mk (Kd.R_elder' (by (with_reducible repeat (first | apply Kd.R_alloc | apply Kd.R_drewN | apply Kd.R_drew)); exact HO134.out) (Kd.R_base ho15) hb); have n1_ := Aside0.mk (Kd.S_elder' (by (with_reducible repeat (first | apply Kd.S_alloc | apply Kd.S_drewN | apply Kd.S_drew)); exact HO138.out) (Kd.R_base ho15) hb); have n2_ := Aside0.mk (Kd.R_elder' (by (with_reducible repeat (first | apply Kd.R_alloc | apply Kd.R_drewN | apply Kd.R_drew)); exact HL139_1.out) (Kd.R_base ho15) hb); have n3_ := Aside0.mk (Kd.R_elder' (by (with_reducible repeat (first | apply Kd.R_alloc | apply Kd.R_drewN | apply Kd.R_drew)); exact HL140_1.out) (Kd.R_base ho15) hb); have n4_ := Aside0.mk (Kd.R_lower (Kd.R_new' (Kd.R_new' (Kd.R_new' ho15 (Kd.R_lt (by (with_reducible repeat (first | apply Kd.R_alloc | apply Kd.R_drewN | apply Kd.R_drew)); exact HO134.out))) (Kd.R_lt (by (with_reducible repeat (first | apply Kd.R_alloc | apply Kd.R_drewN | apply Kd.R_drew)); exact HL139_1.out))) (Kd.R_lt (by (with_reducible repeat (first | apply Kd.R_alloc | apply Kd.R_drewN | apply Kd.R_drew)); exact HL140_1.out))) (below_size (by repeat (first | (with_reducible first | exact HB.out | apply below_alloc | apply pw_below_drewN | apply below_drew1) | exact HB.out)))); have n5_ := Aside0.mk (Kd.C_below (by repeat (first | (with_reducible exact HR139_1.out) | (with_reducible refine Kd.C_alloc ?_ _) | (with_reducible refine Kd.C_drewN ?_ _) | (with_reducible refine Kd.C_drew ?_) | exact HR139_1.out)) hb); have n6_ := Aside0.mk (Kd.C_below (by repeat (first | (with_reducible exact HR140_1.out) | (with_reducible refine Kd.C_alloc ?_ _) | (with_reducible refine Kd.C_drewN ?_ _) | (with_reducible refine Kd.C_drew ?_) | exact HR140_1.out)) hb); have n7_ := Aside0.mk (below_step (by repeat (first | (with_reducible first | exact HB.out | apply below_alloc | apply pw_below_drewN | apply below_drew1) | exact HB.out)) hb); clear HO134; clear HO138; clear HL139_1; clear HL140_1; clear HR139_1; clear HR140_1; clear HB; have HO134 := n0_; have HO138 := n1_; have HL139_1 := n2_; have HL140_1 := n3_; have HO143 := n4_; have HR139_1 := n5_; have HR140_1 := n6_; have HB := n7_; clear n0_ n1_ n2_ n3_ n4_ n5_ n6_ n7_; clear hb ho15; obtain ⟨Ao16, co16, eo16⟩ := Kd.R_slice HO143.out; subst eo16) | (go_at_call 45; (with_reducible refine (api_QFileEvent_45.calls k _ _ ((rd_T60 t135 0).f1) _ _ y141 true _ ?side1 ?side2 ?side3 ?side4 A6.out).mono ?_); (case side1 => repeat (first | exact (by repeat (first | (with_reducible exact HR140_1.out) | (with_reducible refine Kd.C_alloc ?_ _) | (with_reducible refine Kd.C_drewN ?_ _) | (with_reducible refine Kd.C_drew ?_) | exact HR140_1.out)) | (with_reducible refine Kd.C_alloc ?_ _) | (with_reducible refine Kd.C_drewN ?_ _) | (with_reducible refine Kd.C_drew ?_))); (case side2 => exact HC140_1.out); (case side3 => repeat (first | exact (Kd.R_reads' HO143.out).2.2 | (with_reducible refine Kd.C_alloc ?_ _) | (with_reducible refine Kd.C_drewN ?_ _) | (with_reducible refine Kd.C_drew ?_))); (case side4 => exact (Kd.R_reads' HO143.out).2.1); rintro e w17 ⟨rfl, hb⟩; have n0_ := Aside0.mk (Kd.R_below (by (with_reducible repeat (first | apply Kd.R_alloc | apply Kd.R_drewN | apply Kd.R_drew)); exact HO134.out) hb); have n1_ := Aside0.mk (Kd.S_below (by (with_reducible repeat (first | apply Kd.S_alloc | apply Kd.S_drewN | apply Kd.S_drew)); exact HO138.out) hb); have n2_ := Aside0.mk (Kd.R_below (by (with_reducible repeat (first | apply Kd.R_alloc | apply Kd.R_drewN | apply Kd.R_drew)); exact HL139_1.out) hb); have n3_ := Aside0.mk (Kd.R_below (by (with_reducible repeat (first | apply Kd.R_alloc | apply Kd.R_drewN | apply Kd.R_drew)); exact HL140_1.out) hb); have n4_ := Aside0.mk (Kd.R_below (by (with_reducible repeat (first | apply Kd.R_alloc | apply Kd.R_drewN | apply Kd.R_drew)); exact HO143.out) hb); have n5_ := Aside0.mk (Kd.C_below (by repeat (first | (with_reducible exact HR139_1.out) | (with_reducible refine Kd.C_alloc ?_ _) | (with_reducible refine Kd.C_drewN ?_ _) | (with_reducible refine Kd.C_drew ?_) | exact HR139_1.out)) hb); have n6_ := Aside0.mk (Kd.C_below (by repeat (first | (with_reducible exact HR140_1.out) | (with_reducible refine Kd.C_alloc ?_ _) | (with_reducible refine Kd.C_drewN ?_ _) | (with_reducible refine Kd.C_drew ?_) | exact HR140_1.out)) hb); have n7_ := Aside0.mk (below_step (by repeat (first | (with_reducible first | exact HB.out | apply below_alloc | apply pw_below_drewN | apply below_drew1) | exact HB.out)) hb); clear HO134; clear HO138; clear HL139_1; clear HL140_1; clear HO143; clear HR139_1; clear HR140_1; clear HB; have HO134 := n0_; have HO138 := n1_; have HL139_1 := n2_; have HL140_1 := n3_; have HO143 := n4_; have HR139_1 := n5_; have HR140_1 := n6_; have HB := n7_; clear n0_ n1_ n2_ n3_ n4_ n5_ n6_ n7_; (try clear hb); (try clear hb2); (try clear hk); (try clear hi); have p145 : 0 ≤ (1 : Int) := (by omega); have q145 : 1 < (t135.length : Int) := of_decide_eq_true (by first | (with_reducible assumption) | assumption); obtain ⟨ad145, A145_1, c145_1, e145, hx145_0, hx145_1, hl145_1, hi145_1⟩ := at_T60 (Kd.S_reads' HO138.out).2.2 1 p145 q145; obtain rfl : ad139 = ad145 := (by injection e145); obtain ⟨ce145, hce145, hMe145, hcc145⟩ := Kd.S_get HO138.out z60 1 p145 (by first | exact q145 | exact of_decide_eq_true (by first | (with_reducible assumption) | assumption) | (have e_ := (Kd.S_reads' HO138.out).1; omega)); obtain ⟨ve145_1, rfl, ge145_1⟩ := k60_openM hMe145; have hv145_1 := hcc145 1 _ rfl; rw [add_field _ _ 1 (by omega)] at hv145_1; replace hv145_1 := Option.some.inj (hv145_1.symm.trans hx145_1); rw [hv145_1] at ge145_1; have HL145_1 := Aside0.mk (show Kd.R k58 58 _ _ _ _ ((rd_T60 t135 1).f1) from ge145_1); clear hv145_1 ge145_1; clear hcc145 hce145; (try simp only [show (1 : Int).toNat = 1 from rfl, Nat.reduceMul, Nat.reduceEqDiff, Go.Addr.add, ↓reduceIte] at hx145_0); (try simp only [show (1 : Int).toNat = 1 from rfl, Nat.reduceMul, Nat.reduceEqDiff, Go.Addr.add, ↓reduceIte] at hx145_1); have qi145 : (1 < t135.length) = True := eq_true (by omega); (try rw [show ((1 : Int)).toNat = 1 from rfl] at hx145_0); (try rw [show 1 * 2 = 2 from rfl] at hx145_0); (try rw [show ((1 : Int)).toNat = 1 from rfl] at hx145_1); (try rw [show 1 * 2 = 2 from rfl] at hx145_1); have HR145_1 := Aside0.mk hi145_1; have HC145_1 := Aside0.mk hl145_1; clear hi145_1 hl145_1; replace p145 := eq_true p145; replace q145 := eq_true q145))
              go_ret
              exact ⟨by first | rfl | (simp [errW_none, errW_some] <;> rfl) | (simp [*, errW_none, errW_some] <;> rfl), by repeat (first | (with_reducible first | exact HB.out | apply below_alloc | apply pw_below_drewN | apply below_drew1) | exact HB.out)⟩
            · rw [if_neg c8] at H
              exact absurd H (by simp)
          · replace c7 := Bool.eq_false_iff.mpr c7
            subst c7
            have H1 : (some false) = some r := by rw [if_neg (show ¬ (false = true) by decide)] at H; exact H
            clear H
            have H := H1
            clear H1
            obtain rfl := Option.some.inj H
            go_enter Try.func16, Try.ntmps16
            go_wp2_with (first | ((with_reducible refine gate_dst (N := 7) rfl ?_); (try (refine gate_guard (by rfl) ?_; dsimp only)); refine Kd.R_lit k58 _ 58 ?hg (N := 7) ?hd (xs := ([(⟨0, (⟨#[97]⟩ : ByteArray), 1⟩ : S58), (⟨50, (⟨#[97]⟩ : ByteArray), 2⟩ : S58), (⟨200, (⟨#[98]⟩ : ByteArray), 3⟩ : S58)] : List (S58))) (inner := [.int .i64 0, .string (⟨#[97]⟩ : ByteArray), .int .i64 1, .int .i64 50, .string (⟨#[97]⟩ : ByteArray), .int .i64 2, .int .i64 200, .string (⟨#[98]⟩ : ByteArray), .int .i64 3]) (ok := fun _ => True) (okp := fun _ => True) ?hr ?hp (fun _ hk => hk) trivial (Below.refl _ _) (Nat.le_refl _) (by simp) ?_; (case hd => rfl); (case hg => rfl); (case hr => first | (go_simp; done) | (go_simp; rfl)); (case hp => exact (Reps.c3 (show Kd.M k58 _ _ _ (⟨0, (⟨#[97]⟩ : ByteArray), 1⟩ : S58) [.int .i64 0, .string (⟨#[97]⟩ : ByteArray), .int .i64 1] from (k58_mkM _ _ _ (⟨0, (⟨#[97]⟩ : ByteArray), 1⟩ : S58) )) (Reps.c3 (show Kd.M k58 _ _ _ (⟨50, (⟨#[97]⟩ : ByteArray), 2⟩ : S58) [.int .i64 50, .string (⟨#[97]⟩ : ByteArray), .int .i64 2] from (k58_mkM _ _ _ (⟨50, (⟨#[97]⟩ : ByteArray), 2⟩ : S58) )) (Reps.c3 (show Kd.M k58 _ _ _ (⟨200, (⟨#[98]⟩ : ByteArray), 3⟩ : S58) [.int .i64 200, .string (⟨#[98]⟩ : ByteArray), .int .i64 3] from (k58_mkM _ _ _ (⟨200, (⟨#[98]⟩ : ByteArray), 3⟩ : S58) )) (Reps.none _ _))))); intro v133 w18 ho19 hb hg_ hnew_; clear hg_ hnew_; (first | rw [← Ny132.out] at ho19 | (simp only [Int.reduceToNat] at ho19; rw [← Ny132.out] at ho19)); have n0_ := Aside0.mk (Kd.R_lower ho19 (below_size (by repeat (first | (with_reducible first | exact HB.out | apply below_alloc | apply pw_below_drewN | apply below_drew1) | exact HB.out)))); have n1_ := Aside0.mk (below_step (by repeat (first | (with_reducible first | exact HB.out | apply below_alloc | apply pw_below_drewN | apply below_drew1) | exact HB.out)) hb); clear HB; have HO134 := n0_; have HB := n1_; clear n0_ n1_; clear hb ho19; obtain ⟨Ao20, co20, eo20⟩ := Kd.R_slice HO134.out; subst eo20) | ((with_reducible refine gate_callee (f := 17) rfl ?_); refine goesL_ (some 8) rfl rfl Try.func17 (by kernel_rfl) rfl #[.slice Ao20 y132.length co20, .int .i64 100] rfl (by (try simp only [List.map_toArray, List.map_cons, List.map_nil]); first | done | rfl | (simp only [List.length_drop, List.length_take]; rfl)) ?_; (with_reducible refine (filewatch_Batches.calls k _ _ y132 100 t135 t136 _ ?side1 ?side2 A1.out).mono ?_); (case side1 => repeat (first | exact (Kd.R_reads' HO134.out).2.2 | (with_reducible refine Kd.C_alloc ?_ _) | (with_reducible refine Kd.C_drewN ?_ _) | (with_reducible refine Kd.C_drew ?_))); (case side2 => exact (Kd.R_reads' HO134.out).2.1); rintro e w21 ⟨v137, rfl, ho0, hb⟩; refine ⟨_, rfl, ?_⟩; have n0_ := Aside0.mk (Kd.R_below (by (with_reducible repeat (first | apply Kd.R_alloc | apply Kd.R_drewN | apply Kd.R_drew)); exact HO134.out) hb); have n1_ := Aside0.mk (Kd.S_lower (Kd.S_new' ho0 (Kd.R_lt (by (with_reducible repeat (first | apply Kd.R_alloc | apply Kd.R_drewN | apply Kd.R_drew)); exact HO134.out))) (below_size (by repeat (first | (with_reducible first | exact HB.out | apply below_alloc | apply pw_below_drewN | apply below_drew1) | exact HB.out)))); have n2_ := Aside0.mk (below_step (by repeat (first | (with_reducible first | exact HB.out | apply below_alloc | apply pw_below_drewN | apply below_drew1) | exact HB.out)) hb); clear HO134; clear HB; have HO134 := n0_; have HO138 := n1_; have HB := n2_; clear n0_ n1_ n2_; (try clear hb); (try clear hb2); (try clear hk); (try clear hi); (try clear ho0); obtain ⟨Ao22, co22, eo22⟩ := Kd.S_slice HO138.out; subst eo22; have p139 : 0 ≤ (0 : Int) := (by omega); have q139 : 0 < (t135.length : Int) := of_decide_eq_true (by first | (with_reducible assumption) | assumption); obtain ⟨ad139, A139_1, c139_1, e139, hx139_0, hx139_1, hl139_1, hi139_1⟩ := at_T60 (Kd.S_reads' HO138.out).2.2 0 p139 q139; cases e139; obtain ⟨ce139, hce139, hMe139, hcc139⟩ := Kd.S_get HO138.out z60 0 p139 (by first | exact q139 | exact of_decide_eq_true (by first | (with_reducible assumption) | assumption) | (have e_ := (Kd.S_reads' HO138.out).1; omega)); obtain ⟨ve139_1, rfl, ge139_1⟩ := k60_openM hMe139; have hv139_1 := hcc139 1 _ rfl; rw [add_field _ _ 1 (by omega)] at hv139_1; replace hv139_1 := Option.some.inj (hv139_1.symm.trans hx139_1); rw [hv139_1] at ge139_1; have HL139_1 := Aside0.mk (show Kd.R k58 58 _ _ _ _ ((rd_T60 t135 0).f1) from ge139_1); clear hv139_1 ge139_1; clear hcc139 hce139; have qi139 : (0 < t135.length) = True := eq_true (by omega); (try rw [show ((0 : Int)).toNat = 0 from rfl] at hx139_0); (try rw [show 0 * 2 = 0 from rfl] at hx139_0); (try rw [Addr.add_zero'] at hx139_0); (try rw [show ((0 : Int)).toNat = 0 from rfl] at hx139_1); (try rw [show 0 * 2 = 0 from rfl] at hx139_1); (try rw [Addr.add_zero'] at hx139_1); have HR139_1 := Aside0.mk hi139_1; have HC139_1 := Aside0.mk hl139_1; clear hi139_1 hl139_1; replace p139 := eq_true p139; replace q139 := eq_true q139; have p140 : 0 ≤ (0 : Int) := (by omega); have q140 : 0 < (t135.length : Int) := of_decide_eq_true (by first | (with_reducible assumption) | assumption); obtain ⟨ad140, A140_1, c140_1, e140, hx140_0, hx140_1, hl140_1, hi140_1⟩ := at_T60 (Kd.S_reads' HO138.out).2.2 0 p140 q140; obtain rfl : ad139 = ad140 := (by injection e140); obtain ⟨ce140, hce140, hMe140, hcc140⟩ := Kd.S_get HO138.out z60 0 p140 (by first | exact q140 | exact of_decide_eq_true (by first | (with_reducible assumption) | assumption) | (have e_ := (Kd.S_reads' HO138.out).1; omega)); obtain ⟨ve140_1, rfl, ge140_1⟩ := k60_openM hMe140; have hv140_1 := hcc140 1 _ rfl; rw [add_field _ _ 1 (by omega)] at hv140_1; replace hv140_1 := Option.some.inj (hv140_1.symm.trans hx140_1); rw [hv140_1] at ge140_1; have HL140_1 := Aside0.mk (show Kd.R k58 58 _ _ _ _ ((rd_T60 t135 0).f1) from ge140_1); clear hv140_1 ge140_1; clear hcc140 hce140; have qi140 : (0 < t135.length) = True := eq_true (by omega); (try rw [show ((0 : Int)).toNat = 0 from rfl] at hx140_0); (try rw [show 0 * 2 = 0 from rfl] at hx140_0); (try rw [Addr.add_zero'] at hx140_0); (try rw [show ((0 : Int)).toNat = 0 from rfl] at hx140_1); (try rw [show 0 * 2 = 0 from rfl] at hx140_1); (try rw [Addr.add_zero'] at hx140_1); have HR140_1 := Aside0.mk hi140_1; have HC140_1 := Aside0.mk hl140_1; clear hi140_1 hl140_1; replace p140 := eq_true p140; replace q140 := eq_true q140; have ea_ := Option.some.inj (hx139_1.symm.trans hx140_1); injection ea_ with ea_ en_ ec_; subst ea_; subst ec_; clear en_) | ((with_reducible refine gate_dst (N := 31) rfl ?_); (try (refine gate_guard (by rfl) ?_; dsimp only)); refine Kd.R_lit k58 _ 58 ?hg (N := 31) ?hd (xs := ([(⟨50, (⟨#[97]⟩ : ByteArray), 1⟩ : S58)] : List (S58))) (inner := [.int .i64 50, .string (⟨#[97]⟩ : ByteArray), .int .i64 1]) (ok := fun _ => True) (okp := fun _ => True) ?hr ?hp (fun _ hk => hk) trivial (Below.refl _ _) (Nat.le_refl _) (by simp) ?_; (case hd => rfl); (case hg => rfl); (case hr => first | (go_simp; done) | (go_simp; rfl)); (case hp => exact (Reps.c3 (show Kd.M k58 _ _ _ (⟨50, (⟨#[97]⟩ : ByteArray), 1⟩ : S58) [.int .i64 50, .string (⟨#[97]⟩ : ByteArray), .int .i64 1] from (k58_mkM _ _ _ (⟨50, (⟨#[97]⟩ : ByteArray), 1⟩ : S58) )) (Reps.none _ _))); intro v142 w23 ho24 hb hg_ hnew_; clear hg_ hnew_; (first | rw [← Ny141.out] at ho24 | (simp only [Int.reduceToNat] at ho24; rw [← Ny141.out] at ho24)); have n0_ := Aside0.mk (Kd.R_elder' (by (with_reducible repeat (first | apply Kd.R_alloc | apply Kd.R_drewN | apply Kd.R_drew)); exact HO134.out) (Kd.R_base ho24) hb); have n1_ := Aside0.mk (Kd.S_elder' (by (with_reducible repeat (first | apply Kd.S_alloc | apply Kd.S_drewN | apply Kd.S_drew)); exact HO138.out) (Kd.R_base ho24) hb); have n2_ := Aside0.mk (Kd.R_elder' (by (with_reducible repeat (first | apply Kd.R_alloc | apply Kd.R_drewN | apply Kd.R_drew)); exact HL139_1.out) (Kd.R_base ho24) hb); have n3_ := Aside0.mk (Kd.R_elder' (by (with_reducible repeat (first | apply Kd.R_alloc | apply Kd.R_drewN | apply Kd.R_drew)); exact HL140_1.out) (Kd.R_base ho24) hb); have n4_ := Aside0.mk (Kd.R_lower (Kd.R_new' (Kd.R_new' (Kd.R_new' ho24 (Kd.R_lt (by (with_reducible repeat (first | apply Kd.R_alloc | apply Kd.R_drewN | apply Kd.R_drew)); exact HO134.out))) (Kd.R_lt (by (with_reducible repeat (first | apply Kd.R_alloc | apply Kd.R_drewN | apply Kd.R_drew)); exact HL139_1.out))) (Kd.R_lt (by (with_reducible repeat (first | apply Kd.R_alloc | apply Kd.R_drewN | apply Kd.R_drew)); exact HL140_1.out))) (below_size (by repeat (first | (with_reducible first | exact HB.out | apply below_alloc | apply pw_below_drewN | apply below_drew1) | exact HB.out)))); have n5_ := Aside0.mk (Kd.C_below (by repeat (first | (with_reducible exact HR139_1.out) | (with_reducible refine Kd.C_alloc ?_ _) | (with_reducible refine Kd.C_drewN ?_ _) | (with_reducible refine Kd.C_drew ?_) | exact HR139_1.out)) hb); have n6_ := Aside0.mk (Kd.C_below (by repeat (first | (with_reducible exact HR140_1.out) | (with_reducible refine Kd.C_alloc ?_ _) | (with_reducible refine Kd.C_drewN ?_ _) | (with_reducible refine Kd.C_drew ?_) | exact HR140_1.out)) hb); have n7_ := Aside0.mk (below_step (by repeat (first | (with_reducible first | exact HB.out | apply below_alloc | apply pw_below_drewN | apply below_drew1) | exact HB.out)) hb); clear HO134; clear HO138; clear HL139_1; clear HL140_1; clear HR139_1; clear HR140_1; clear HB; have HO134 := n0_; have HO138 := n1_; have HL139_1 := n2_; have HL140_1 := n3_; have HO143 := n4_; have HR139_1 := n5_; have HR140_1 := n6_; have HB := n7_; clear n0_ n1_ n2_ n3_ n4_ n5_ n6_ n7_; clear hb ho24; obtain ⟨Ao25, co25, eo25⟩ := Kd.R_slice HO143.out; subst eo25) | (go_at_call 45; (with_reducible refine (api_QFileEvent_45.calls k _ _ ((rd_T60 t135 0).f1) _ _ y141 false _ ?side1 ?side2 ?side3 ?side4 A6.out).mono ?_); (case side1 => repeat (first | exact (by repeat (first | (with_reducible exact HR140_1.out) | (with_reducible refine Kd.C_alloc ?_ _) | (with_reducible refine Kd.C_drewN ?_ _) | (with_reducible refine Kd.C_drew ?_) | exact HR140_1.out)) | (with_reducible refine Kd.C_alloc ?_ _) | (with_reducible refine Kd.C_drewN ?_ _) | (with_reducible refine Kd.C_drew ?_))); (case side2 => exact HC140_1.out); (case side3 => repeat (first | exact (Kd.R_reads' HO143.out).2.2 | (with_reducible refine Kd.C_alloc ?_ _) | (with_reducible refine Kd.C_drewN ?_ _) | (with_reducible refine Kd.C_drew ?_))); (case side4 => exact (Kd.R_reads' HO143.out).2.1); rintro e w26 ⟨rfl, hb⟩; have n0_ := Aside0.mk (Kd.R_below (by (with_reducible repeat (first | apply Kd.R_alloc | apply Kd.R_drewN | apply Kd.R_drew)); exact HO134.out) hb); have n1_ := Aside0.mk (Kd.S_below (by (with_reducible repeat (first | apply Kd.S_alloc | apply Kd.S_drewN | apply Kd.S_drew)); exact HO138.out) hb); have n2_ := Aside0.mk (Kd.R_below (by (with_reducible repeat (first | apply Kd.R_alloc | apply Kd.R_drewN | apply Kd.R_drew)); exact HL139_1.out) hb); have n3_ := Aside0.mk (Kd.R_below (by (with_reducible repeat (first | apply Kd.R_alloc | apply Kd.R_drewN | apply Kd.R_drew)); exact HL140_1.out) hb); have n4_ := Aside0.mk (Kd.R_below (by (with_reducible repeat (first | apply Kd.R_alloc | apply Kd.R_drewN | apply Kd.R_drew)); exact HO143.out) hb); have n5_ := Aside0.mk (Kd.C_below (by repeat (first | (with_reducible exact HR139_1.out) | (with_reducible refine Kd.C_alloc ?_ _) | (with_reducible refine Kd.C_drewN ?_ _) | (with_reducible refine Kd.C_drew ?_) | exact HR139_1.out)) hb); have n6_ := Aside0.mk (Kd.C_below (by repeat (first | (with_reducible exact HR140_1.out) | (with_reducible refine Kd.C_alloc ?_ _) | (with_reducible refine Kd.C_drewN ?_ _) | (with_reducible refine Kd.C_drew ?_) | exact HR140_1.out)) hb); have n7_ := Aside0.mk (below_step (by repeat (first | (with_reducible first | exact HB.out | apply below_alloc | apply pw_below_drewN | apply below_drew1) | exact HB.out)) hb); clear HO134; clear HO138; clear HL139_1; clear HL140_1; clear HO143; clear HR139_1; clear HR140_1; clear HB; have HO134 := n0_; have HO138 := n1_; have HL139_1 := n2_; have HL140_1 := n3_; have HO143 := n4_; have HR139_1 := n5_; have HR140_1 := n6_; have HB := n7_; clear n0_ n1_ n2_ n3_ n4_ n5_ n6_ n7_; (try clear hb); (try clear hb2); (try clear hk); (try clear hi)))
            go_ret
            exact ⟨by first | rfl | (simp [errW_none, errW_some] <;> rfl) | (simp [*, errW_none, errW_some] <;> rfl), by repeat (first | (with_reducible first | exact HB.out | apply below_alloc | apply pw_below_drewN | apply below_drew1) | exact HB.out)⟩
        · rw [if_neg c5] at H
          have c5b0 : (((rd_T60 t135 0).f0) == 150) = false := beq_eq_false_iff_ne.mpr c5
          have c5b1 : (((rd_T60 t135 0).f0) != 150) = true := bne_iff_ne.mpr c5
          obtain rfl := Option.some.inj H
          go_enter Try.func16, Try.ntmps16
          go_wp2_with (first | ((with_reducible refine gate_dst (N := 7) rfl ?_); (try (refine gate_guard (by rfl) ?_; dsimp only)); refine Kd.R_lit k58 _ 58 ?hg (N := 7) ?hd (xs := ([(⟨0, (⟨#[97]⟩ : ByteArray), 1⟩ : S58), (⟨50, (⟨#[97]⟩ : ByteArray), 2⟩ : S58), (⟨200, (⟨#[98]⟩ : ByteArray), 3⟩ : S58)] : List (S58))) (inner := [.int .i64 0, .string (⟨#[97]⟩ : ByteArray), .int .i64 1, .int .i64 50, .string (⟨#[97]⟩ : ByteArray), .int .i64 2, .int .i64 200, .string (⟨#[98]⟩ : ByteArray), .int .i64 3]) (ok := fun _ => True) (okp := fun _ => True) ?hr ?hp (fun _ hk => hk) trivial (Below.refl _ _) (Nat.le_refl _) (by simp) ?_; (case hd => rfl); (case hg => rfl); (case hr => first | (go_simp; done) | (go_simp; rfl)); (case hp => exact (Reps.c3 (show Kd.M k58 _ _ _ (⟨0, (⟨#[97]⟩ : ByteArray), 1⟩ : S58) [.int .i64 0, .string (⟨#[97]⟩ : ByteArray), .int .i64 1] from (k58_mkM _ _ _ (⟨0, (⟨#[97]⟩ : ByteArray), 1⟩ : S58) )) (Reps.c3 (show Kd.M k58 _ _ _ (⟨50, (⟨#[97]⟩ : ByteArray), 2⟩ : S58) [.int .i64 50, .string (⟨#[97]⟩ : ByteArray), .int .i64 2] from (k58_mkM _ _ _ (⟨50, (⟨#[97]⟩ : ByteArray), 2⟩ : S58) )) (Reps.c3 (show Kd.M k58 _ _ _ (⟨200, (⟨#[98]⟩ : ByteArray), 3⟩ : S58) [.int .i64 200, .string (⟨#[98]⟩ : ByteArray), .int .i64 3] from (k58_mkM _ _ _ (⟨200, (⟨#[98]⟩ : ByteArray), 3⟩ : S58) )) (Reps.none _ _))))); intro v133 w27 ho28 hb hg_ hnew_; clear hg_ hnew_; (first | rw [← Ny132.out] at ho28 | (simp only [Int.reduceToNat] at ho28; rw [← Ny132.out] at ho28)); have n0_ := Aside0.mk (Kd.R_lower ho28 (below_size (by repeat (first | (with_reducible first | exact HB.out | apply below_alloc | apply pw_below_drewN | apply below_drew1) | exact HB.out)))); have n1_ := Aside0.mk (below_step (by repeat (first | (with_reducible first | exact HB.out | apply below_alloc | apply pw_below_drewN | apply below_drew1) | exact HB.out)) hb); clear HB; have HO134 := n0_; have HB := n1_; clear n0_ n1_; clear hb ho28; obtain ⟨Ao29, co29, eo29⟩ := Kd.R_slice HO134.out; subst eo29) | ((with_reducible refine gate_callee (f := 17) rfl ?_); refine goesL_ (some 8) rfl rfl Try.func17 (by kernel_rfl) rfl #[.slice Ao29 y132.length co29, .int .i64 100] rfl (by (try simp only [List.map_toArray, List.map_cons, List.map_nil]); first | done | rfl | (simp only [List.length_drop, List.length_take]; rfl)) ?_; (with_reducible refine (filewatch_Batches.calls k _ _ y132 100 t135 t136 _ ?side1 ?side2 A1.out).mono ?_); (case side1 => repeat (first | exact (Kd.R_reads' HO134.out).2.2 | (with_reducible refine Kd.C_alloc ?_ _) | (with_reducible refine Kd.C_drewN ?_ _) | (with_reducible refine Kd.C_drew ?_))); (case side2 => exact (Kd.R_reads' HO134.out).2.1); rintro e w30 ⟨v137, rfl, ho0, hb⟩; refine ⟨_, rfl, ?_⟩; have n0_ := Aside0.mk (Kd.R_below (by (with_reducible repeat (first | apply Kd.R_alloc | apply Kd.R_drewN | apply Kd.R_drew)); exact HO134.out) hb); have n1_ := Aside0.mk (Kd.S_lower (Kd.S_new' ho0 (Kd.R_lt (by (with_reducible repeat (first | apply Kd.R_alloc | apply Kd.R_drewN | apply Kd.R_drew)); exact HO134.out))) (below_size (by repeat (first | (with_reducible first | exact HB.out | apply below_alloc | apply pw_below_drewN | apply below_drew1) | exact HB.out)))); have n2_ := Aside0.mk (below_step (by repeat (first | (with_reducible first | exact HB.out | apply below_alloc | apply pw_below_drewN | apply below_drew1) | exact HB.out)) hb); clear HO134; clear HB; have HO134 := n0_; have HO138 := n1_; have HB := n2_; clear n0_ n1_ n2_; (try clear hb); (try clear hb2); (try clear hk); (try clear hi); (try clear ho0); obtain ⟨Ao31, co31, eo31⟩ := Kd.S_slice HO138.out; subst eo31; have p139 : 0 ≤ (0 : Int) := (by omega); have q139 : 0 < (t135.length : Int) := of_decide_eq_true (by first | (with_reducible assumption) | assumption); obtain ⟨ad139, A139_1, c139_1, e139, hx139_0, hx139_1, hl139_1, hi139_1⟩ := at_T60 (Kd.S_reads' HO138.out).2.2 0 p139 q139; cases e139; obtain ⟨ce139, hce139, hMe139, hcc139⟩ := Kd.S_get HO138.out z60 0 p139 (by first | exact q139 | exact of_decide_eq_true (by first | (with_reducible assumption) | assumption) | (have e_ := (Kd.S_reads' HO138.out).1; omega)); obtain ⟨ve139_1, rfl, ge139_1⟩ := k60_openM hMe139; have hv139_1 := hcc139 1 _ rfl; rw [add_field _ _ 1 (by omega)] at hv139_1; replace hv139_1 := Option.some.inj (hv139_1.symm.trans hx139_1); rw [hv139_1] at ge139_1; have HL139_1 := Aside0.mk (show Kd.R k58 58 _ _ _ _ ((rd_T60 t135 0).f1) from ge139_1); clear hv139_1 ge139_1; clear hcc139 hce139; have qi139 : (0 < t135.length) = True := eq_true (by omega); (try rw [show ((0 : Int)).toNat = 0 from rfl] at hx139_0); (try rw [show 0 * 2 = 0 from rfl] at hx139_0); (try rw [Addr.add_zero'] at hx139_0); (try rw [show ((0 : Int)).toNat = 0 from rfl] at hx139_1); (try rw [show 0 * 2 = 0 from rfl] at hx139_1); (try rw [Addr.add_zero'] at hx139_1); have HR139_1 := Aside0.mk hi139_1; have HC139_1 := Aside0.mk hl139_1; clear hi139_1 hl139_1; replace p139 := eq_true p139; replace q139 := eq_true q139))
          go_ret
          exact ⟨by first | rfl | (simp [errW_none, errW_some] <;> rfl) | (simp [*, errW_none, errW_some] <;> rfl), by repeat (first | (with_reducible first | exact HB.out | apply below_alloc | apply pw_below_drewN | apply below_drew1) | exact HB.out)⟩
      · rw [if_neg c4] at H
        exact absurd H (by simp)
    · rw [if_neg c3] at H
      have c3b0 : ((t135.length : Int) == 2) = false := beq_eq_false_iff_ne.mpr c3
      have c3b1 : ((t135.length : Int) != 2) = true := bne_iff_ne.mpr c3
      obtain rfl := Option.some.inj H
      go_enter Try.func16, Try.ntmps16
      go_wp2_with (first | ((with_reducible refine gate_dst (N := 7) rfl ?_); (try (refine gate_guard (by rfl) ?_; dsimp only)); refine Kd.R_lit k58 _ 58 ?hg (N := 7) ?hd (xs := ([(⟨0, (⟨#[97]⟩ : ByteArray), 1⟩ : S58), (⟨50, (⟨#[97]⟩ : ByteArray), 2⟩ : S58), (⟨200, (⟨#[98]⟩ : ByteArray), 3⟩ : S58)] : List (S58))) (inner := [.int .i64 0, .string (⟨#[97]⟩ : ByteArray), .int .i64 1, .int .i64 50, .string (⟨#[97]⟩ : ByteArray), .int .i64 2, .int .i64 200, .string (⟨#[98]⟩ : ByteArray), .int .i64 3]) (ok := fun _ => True) (okp := fun _ => True) ?hr ?hp (fun _ hk => hk) trivial (Below.refl _ _) (Nat.le_refl _) (by simp) ?_; (case hd => rfl); (case hg => rfl); (case hr => first | (go_simp; done) | (go_simp; rfl)); (case hp => exact (Reps.c3 (show Kd.M k58 _ _ _ (⟨0, (⟨#[97]⟩ : ByteArray), 1⟩ : S58) [.int .i64 0, .string (⟨#[97]⟩ : ByteArray), .int .i64 1] from (k58_mkM _ _ _ (⟨0, (⟨#[97]⟩ : ByteArray), 1⟩ : S58) )) (Reps.c3 (show Kd.M k58 _ _ _ (⟨50, (⟨#[97]⟩ : ByteArray), 2⟩ : S58) [.int .i64 50, .string (⟨#[97]⟩ : ByteArray), .int .i64 2] from (k58_mkM _ _ _ (⟨50, (⟨#[97]⟩ : ByteArray), 2⟩ : S58) )) (Reps.c3 (show Kd.M k58 _ _ _ (⟨200, (⟨#[98]⟩ : ByteArray), 3⟩ : S58) [.int .i64 200, .string (⟨#[98]⟩ : ByteArray), .int .i64 3] from (k58_mkM _ _ _ (⟨200, (⟨#[98]⟩ : ByteArray), 3⟩ : S58) )) (Reps.none _ _))))); intro v133 w32 ho33 hb hg_ hnew_; clear hg_ hnew_; (first | rw [← Ny132.out] at ho33 | (simp only [Int.reduceToNat] at ho33; rw [← Ny132.out] at ho33)); have n0_ := Aside0.mk (Kd.R_lower ho33 (below_size (by repeat (first | (with_reducible first | exact HB.out | apply below_alloc | apply pw_below_drewN | apply below_drew1) | exact HB.out)))); have n1_ := Aside0.mk (below_step (by repeat (first | (with_reducible first | exact HB.out | apply below_alloc | apply pw_below_drewN | apply below_drew1) | exact HB.out)) hb); clear HB; have HO134 := n0_; have HB := n1_; clear n0_ n1_; clear hb ho33; obtain ⟨Ao34, co34, eo34⟩ := Kd.R_slice HO134.out; subst eo34) | ((with_reducible refine gate_callee (f := 17) rfl ?_); refine goesL_ (some 8) rfl rfl Try.func17 (by kernel_rfl) rfl #[.slice Ao34 y132.length co34, .int .i64 100] rfl (by (try simp only [List.map_toArray, List.map_cons, List.map_nil]); first | done | rfl | (simp only [List.length_drop, List.length_take]; rfl)) ?_; (with_reducible refine (filewatch_Batches.calls k _ _ y132 100 t135 t136 _ ?side1 ?side2 A1.out).mono ?_); (case side1 => repeat (first | exact (Kd.R_reads' HO134.out).2.2 | (with_reducible refine Kd.C_alloc ?_ _) | (with_reducible refine Kd.C_drewN ?_ _) | (with_reducible refine Kd.C_drew ?_))); (case side2 => exact (Kd.R_reads' HO134.out).2.1); rintro e w35 ⟨v137, rfl, ho0, hb⟩; refine ⟨_, rfl, ?_⟩; have n0_ := Aside0.mk (Kd.R_below (by (with_reducible repeat (first | apply Kd.R_alloc | apply Kd.R_drewN | apply Kd.R_drew)); exact HO134.out) hb); have n1_ := Aside0.mk (Kd.S_lower (Kd.S_new' ho0 (Kd.R_lt (by (with_reducible repeat (first | apply Kd.R_alloc | apply Kd.R_drewN | apply Kd.R_drew)); exact HO134.out))) (below_size (by repeat (first | (with_reducible first | exact HB.out | apply below_alloc | apply pw_below_drewN | apply below_drew1) | exact HB.out)))); have n2_ := Aside0.mk (below_step (by repeat (first | (with_reducible first | exact HB.out | apply below_alloc | apply pw_below_drewN | apply below_drew1) | exact HB.out)) hb); clear HO134; clear HB; have HO134 := n0_; have HO138 := n1_; have HB := n2_; clear n0_ n1_ n2_; (try clear hb); (try clear hb2); (try clear hk); (try clear hi); (try clear ho0); obtain ⟨Ao36, co36, eo36⟩ := Kd.S_slice HO138.out; subst eo36))
      go_ret
      exact ⟨by first | rfl | (simp [errW_none, errW_some] <;> rfl) | (simp [*, errW_none, errW_some] <;> rfl), by repeat (first | (with_reducible first | exact HB.out | apply below_alloc | apply pw_below_drewN | apply below_drew1) | exact HB.out)⟩
  · rw [if_neg c2] at H
    have c2b0 : (t136 == 0) = false := beq_eq_false_iff_ne.mpr c2
    have c2b1 : (t136 != 0) = true := bne_iff_ne.mpr c2
    obtain rfl := Option.some.inj H
    go_enter Try.func16, Try.ntmps16
    go_wp2_with (first | ((with_reducible refine gate_dst (N := 7) rfl ?_); (try (refine gate_guard (by rfl) ?_; dsimp only)); refine Kd.R_lit k58 _ 58 ?hg (N := 7) ?hd (xs := ([(⟨0, (⟨#[97]⟩ : ByteArray), 1⟩ : S58), (⟨50, (⟨#[97]⟩ : ByteArray), 2⟩ : S58), (⟨200, (⟨#[98]⟩ : ByteArray), 3⟩ : S58)] : List (S58))) (inner := [.int .i64 0, .string (⟨#[97]⟩ : ByteArray), .int .i64 1, .int .i64 50, .string (⟨#[97]⟩ : ByteArray), .int .i64 2, .int .i64 200, .string (⟨#[98]⟩ : ByteArray), .int .i64 3]) (ok := fun _ => True) (okp := fun _ => True) ?hr ?hp (fun _ hk => hk) trivial (Below.refl _ _) (Nat.le_refl _) (by simp) ?_; (case hd => rfl); (case hg => rfl); (case hr => first | (go_simp; done) | (go_simp; rfl)); (case hp => exact (Reps.c3 (show Kd.M k58 _ _ _ (⟨0, (⟨#[97]⟩ : ByteArray), 1⟩ : S58) [.int .i64 0, .string (⟨#[97]⟩ : ByteArray), .int .i64 1] from (k58_mkM _ _ _ (⟨0, (⟨#[97]⟩ : ByteArray), 1⟩ : S58) )) (Reps.c3 (show Kd.M k58 _ _ _ (⟨50, (⟨#[97]⟩ : ByteArray), 2⟩ : S58) [.int .i64 50, .string (⟨#[97]⟩ : ByteArray), .int .i64 2] from (k58_mkM _ _ _ (⟨50, (⟨#[97]⟩ : ByteArray), 2⟩ : S58) )) (Reps.c3 (show Kd.M k58 _ _ _ (⟨200, (⟨#[98]⟩ : ByteArray), 3⟩ : S58) [.int .i64 200, .string (⟨#[98]⟩ : ByteArray), .int .i64 3] from (k58_mkM _ _ _ (⟨200, (⟨#[98]⟩ : ByteArray), 3⟩ : S58) )) (Reps.none _ _))))); intro v133 w37 ho38 hb hg_ hnew_; clear hg_ hnew_; (first | rw [← Ny132.out] at ho38 | (simp only [Int.reduceToNat] at ho38; rw [← Ny132.out] at ho38)); have n0_ := Aside0.mk (Kd.R_lower ho38 (below_size (by repeat (first | (with_reducible first | exact HB.out | apply below_alloc | apply pw_below_drewN | apply below_drew1) | exact HB.out)))); have n1_ := Aside0.mk (below_step (by repeat (first | (with_reducible first | exact HB.out | apply below_alloc | apply pw_below_drewN | apply below_drew1) | exact HB.out)) hb); clear HB; have HO134 := n0_; have HB := n1_; clear n0_ n1_; clear hb ho38; obtain ⟨Ao39, co39, eo39⟩ := Kd.R_slice HO134.out; subst eo39) | ((with_reducible refine gate_callee (f := 17) rfl ?_); refine goesL_ (some 8) rfl rfl Try.func17 (by kernel_rfl) rfl #[.slice Ao39 y132.length co39, .int .i64 100] rfl (by (try simp only [List.map_toArray, List.map_cons, List.map_nil]); first | done | rfl | (simp only [List.length_drop, List.length_take]; rfl)) ?_; (with_reducible refine (filewatch_Batches.calls k _ _ y132 100 t135 t136 _ ?side1 ?side2 A1.out).mono ?_); (case side1 => repeat (first | exact (Kd.R_reads' HO134.out).2.2 | (with_reducible refine Kd.C_alloc ?_ _) | (with_reducible refine Kd.C_drewN ?_ _) | (with_reducible refine Kd.C_drew ?_))); (case side2 => exact (Kd.R_reads' HO134.out).2.1); rintro e w40 ⟨v137, rfl, ho0, hb⟩; refine ⟨_, rfl, ?_⟩; have n0_ := Aside0.mk (Kd.R_below (by (with_reducible repeat (first | apply Kd.R_alloc | apply Kd.R_drewN | apply Kd.R_drew)); exact HO134.out) hb); have n1_ := Aside0.mk (Kd.S_lower (Kd.S_new' ho0 (Kd.R_lt (by (with_reducible repeat (first | apply Kd.R_alloc | apply Kd.R_drewN | apply Kd.R_drew)); exact HO134.out))) (below_size (by repeat (first | (with_reducible first | exact HB.out | apply below_alloc | apply pw_below_drewN | apply below_drew1) | exact HB.out)))); have n2_ := Aside0.mk (below_step (by repeat (first | (with_reducible first | exact HB.out | apply below_alloc | apply pw_below_drewN | apply below_drew1) | exact HB.out)) hb); clear HO134; clear HB; have HO134 := n0_; have HO138 := n1_; have HB := n2_; clear n0_ n1_ n2_; (try clear hb); (try clear hb2); (try clear hk); (try clear hi); (try clear ho0)))
    go_ret
    exact ⟨by first | rfl | (simp [errW_none, errW_some] <;> rfl) | (simp [*, errW_none, errW_some] <;> rfl), by repeat (first | (with_reducible first | exact HB.out | apply below_alloc | apply pw_below_drewN | apply below_drew1) | exact HB.out)⟩

/-! ### glossatorref3_CheckEvents: function 18 -/
mutual
def glossatorref3_CheckEvents.j0 : Nat → List (S58) → Bool → Option (Int)
  | 0, _, _ => none
  | k + 1, x0, x15 => if x15 = true then (some 1) else (if (x0.length : Int) > 1000 then (some 2) else (glossatorref3_CheckEvents.l0 k x0 x0 (x0.length : Int) 0))
def glossatorref3_CheckEvents.l0 : Nat → List (S58) → List (S58) → Int → Int → Option (Int)
  | 0, _, _, _, _ => none
  | k + 1, x0, x19, x20, x21 => if x21 < x20 then (if 0 ≤ x21 then (if x21 < (x19.length : Int) then (if ((rd_T58 x19 x21).f2) < 1 then (some 7) else (if ((rd_T58 x19 x21).f2) > 3 then (some 7) else (glossatorref3_CheckEvents.l0 k x0 x19 x20 (wrap64 (x21 + 1))))) else (none)) else (none)) else (glossatorref3_CheckEvents.l1 k 0 x0 (x0.length : Int) 0)
def glossatorref3_CheckEvents.l1 : Nat → Int → List (S58) → Int → Int → Option (Int)
  | 0, _, _, _, _ => none
  | k + 1, x7, x34, x35, x36 => if x36 < x35 then (if 0 ≤ x36 then (if x36 < (x34.length : Int) then (if ((rd_T58 x34 x36).f0) < x7 then (some 3) else (if ((rd_T58 x34 x36).f0) > 1000000000000 then (some 3) else (glossatorref3_CheckEvents.l1 k ((rd_T58 x34 x36).f0) x34 x35 (wrap64 (x36 + 1))))) else (none)) else (none)) else (some 0)
end
def glossatorref3_CheckEvents.f (k : Nat) (l0 : List (S58)) (a1 : Int) : Option (Int) := if a1 < 0 then (glossatorref3_CheckEvents.j0 k l0 true) else (glossatorref3_CheckEvents.j0 k l0 (decide (a1 > 1000000)))
theorem glossatorref3_CheckEvents.mono_l : ∀ k, (∀ y0 y1, LeO (glossatorref3_CheckEvents.j0 k y0 y1) (glossatorref3_CheckEvents.j0 (k + 1) y0 y1)) ∧ (∀ y0 y1 y2 y3, LeO (glossatorref3_CheckEvents.l0 k y0 y1 y2 y3) (glossatorref3_CheckEvents.l0 (k + 1) y0 y1 y2 y3)) ∧ (∀ y0 y1 y2 y3, LeO (glossatorref3_CheckEvents.l1 k y0 y1 y2 y3) (glossatorref3_CheckEvents.l1 (k + 1) y0 y1 y2 y3))
  | 0 => ⟨fun _ _ r h => by simp [glossatorref3_CheckEvents.j0] at h, fun _ _ _ _ r h => by simp [glossatorref3_CheckEvents.l0] at h, fun _ _ _ _ r h => by simp [glossatorref3_CheckEvents.l1] at h⟩
  | k + 1 => by
    obtain ⟨ih0, ih1, ih2⟩ := glossatorref3_CheckEvents.mono_l k
    refine ⟨?_, ?_, ?_⟩
    · intro y0 y1
      unfold glossatorref3_CheckEvents.j0
      repeat' first
      | (with_reducible exact ih0 _ _)
      | (with_reducible exact ih1 _ _ _ _)
      | (with_reducible exact ih2 _ _ _ _)
      | (with_reducible exact LeO.refl _)
      | (with_reducible exact LeO.none _)
      | (with_reducible refine LeO.ite ?_ ?_)
      | (with_reducible refine LeO.bind ?_ (fun _ => ?_))
      | exact ih0 _ _
      | exact ih1 _ _ _ _
      | exact ih2 _ _ _ _
      | exact LeO.none _
      | refine LeO.ite ?_ ?_
      | refine LeO.bind ?_ (fun _ => ?_)
    · intro y0 y1 y2 y3
      unfold glossatorref3_CheckEvents.l0
      repeat' first
      | (with_reducible exact ih0 _ _)
      | (with_reducible exact ih1 _ _ _ _)
      | (with_reducible exact ih2 _ _ _ _)
      | (with_reducible exact LeO.refl _)
      | (with_reducible exact LeO.none _)
      | (with_reducible refine LeO.ite ?_ ?_)
      | (with_reducible refine LeO.bind ?_ (fun _ => ?_))
      | exact ih0 _ _
      | exact ih1 _ _ _ _
      | exact ih2 _ _ _ _
      | exact LeO.none _
      | refine LeO.ite ?_ ?_
      | refine LeO.bind ?_ (fun _ => ?_)
    · intro y0 y1 y2 y3
      unfold glossatorref3_CheckEvents.l1
      repeat' first
      | (with_reducible exact ih0 _ _)
      | (with_reducible exact ih1 _ _ _ _)
      | (with_reducible exact ih2 _ _ _ _)
      | (with_reducible exact LeO.refl _)
      | (with_reducible exact LeO.none _)
      | (with_reducible refine LeO.ite ?_ ?_)
      | (with_reducible refine LeO.bind ?_ (fun _ => ?_))
      | exact ih0 _ _
      | exact ih1 _ _ _ _
      | exact ih2 _ _ _ _
      | exact LeO.none _
      | refine LeO.ite ?_ ?_
      | refine LeO.bind ?_ (fun _ => ?_)
theorem glossatorref3_CheckEvents.mono : ∀ a0 a1 k, LeO (glossatorref3_CheckEvents.f k a0 a1) (glossatorref3_CheckEvents.f (k + 1) a0 a1) := by
  intro a0 a1 k
  obtain ⟨ih0, ih1, ih2⟩ := glossatorref3_CheckEvents.mono_l k
  unfold glossatorref3_CheckEvents.f
  repeat' first
      | (with_reducible exact ih0 _ _)
      | (with_reducible exact ih1 _ _ _ _)
      | (with_reducible exact ih2 _ _ _ _)
      | (with_reducible exact LeO.refl _)
      | (with_reducible exact LeO.none _)
      | (with_reducible refine LeO.ite ?_ ?_)
      | (with_reducible refine LeO.bind ?_ (fun _ => ?_))
      | exact ih0 _ _
      | exact ih1 _ _ _ _
      | exact ih2 _ _ _ _
      | exact LeO.none _
      | refine LeO.ite ?_ ?_
      | refine LeO.bind ?_ (fun _ => ?_)
set_option maxHeartbeats 8000000 in
set_option maxRecDepth 100000 in
theorem glossatorref3_CheckEvents.calls (k : Nat) (A0 : Option Addr) (c0 : Nat) (l0 : List (S58)) (a1 : Int) (r : Int) (w : World) (hr0 : Kd.C k58 w A0 l0.length l0) (hc0 : l0.length ≤ c0) (h : glossatorref3_CheckEvents.f k l0 a1 = some r) :
    Calls Try.prog 18 #[.slice A0 l0.length c0, .int .i64 a1] w fun e w' => e = .returned (.int .i64 r) ∧ Below w.heap.size w w' := by
  have hu58 := Try.underlying58
  have HR0 := Aside0.mk hr0
  have HC0 := Aside0.mk hc0
  clear hr0 hc0
  have HB := Aside0.mk (Below.refl w.heap.size w)
  have H : (if a1 < 0 then (glossatorref3_CheckEvents.j0 k l0 true) else (glossatorref3_CheckEvents.j0 k l0 (decide (a1 > 1000000)))) = some r := h
  clear h
  have HC3 := Aside0.mk H
  clear H
  go_enter Try.func18, Try.ntmps18
  go_upto_region 1 with (fail)
  go_cut [15] (fun v15 wc => ∃ (kq : Nat) (x15_2 : Bool), v15 = .bool x15_2 ∧ Aside0 (glossatorref3_CheckEvents.j0 kq l0 x15_2 = some r) ∧ Aside0 (kq ≤ k) ∧ Aside0 (Below w.heap.size w wc))
  case first =>
    have H := HC3.out
    clear HC3
    by_cases c4 : a1 < 0
    · rw [if_pos c4] at H
      have c4b0 : decide (a1 < 0) = true := decide_eq_true c4
      clear c4
      (first | rw [c4b0] | (simp only [i64_w, i32_w]; rw [c4b0]) | skip)
      have H' := Aside0.mk H
      clear H
      go_wp2
      go_meet
      case rel => exact ⟨_, (true), (by first | rfl | (simp; done) | (simp [*]; done) | (simp [isEmpty_bne]; done)), H', ⟨by first | omega | exact Nat.le_refl _⟩, ⟨by repeat (first | (with_reducible first | exact HB.out | apply below_alloc | apply pw_below_drewN | apply below_drew1) | exact HB.out)⟩⟩
    · rw [if_neg c4] at H
      have c4b0 : decide (a1 < 0) = false := decide_eq_false c4
      clear c4
      (first | rw [c4b0] | (simp only [i64_w, i32_w]; rw [c4b0]) | skip)
      have H' := Aside0.mk H
      clear H
      go_wp2
      go_meet
      case rel => exact ⟨_, (decide (a1 > 1000000)), (by first | rfl | (simp; done) | (simp [*]; done) | (simp [isEmpty_bne]; done)), H', ⟨by first | omega | exact Nat.le_refl _⟩, ⟨by repeat (first | (with_reducible first | exact HB.out | apply below_alloc | apply pw_below_drewN | apply below_drew1) | exact HB.out)⟩⟩
  case rest =>
    clear HC3
    try clear c1
    try clear p2
    try clear c4
    try clear c4b0
    obtain ⟨kq, x15_2, rfl, HA, HJ2, HB⟩ := hcut
    cases kq with
    | zero => exact absurd HA.out (by simp [glossatorref3_CheckEvents.j0])
    | succ kj2 =>
      have H := HA.out
      clear HA
      simp only [glossatorref3_CheckEvents.j0] at H
      by_cases c5 : x15_2 = true
      · subst c5
        have H1 : (some 1) = some r := by rw [if_pos rfl] at H; exact H
        clear H
        have H := H1
        clear H1
        obtain rfl := Option.some.inj H
        go_wp2
        go_ret
        exact ⟨by first | rfl | (simp [errW_none, errW_some] <;> rfl) | (simp [*, errW_none, errW_some] <;> rfl), by repeat (first | (with_reducible first | exact HB.out | apply below_alloc | apply pw_below_drewN | apply below_drew1) | exact HB.out)⟩
      · replace c5 := Bool.eq_false_iff.mpr c5
        subst c5
        have H1 : (if (l0.length : Int) > 1000 then (some 2) else (glossatorref3_CheckEvents.l0 kj2 l0 l0 (l0.length : Int) 0)) = some r := by rw [if_neg (show ¬ (false = true) by decide)] at H; exact H
        clear H
        have H := H1
        clear H1
        by_cases c6 : (l0.length : Int) > 1000
        · rw [if_pos c6] at H
          have c6b0 : decide (1000 < (l0.length : Int)) = true := decide_eq_true c6
          have c6b1 : decide (1000 < l0.length) = true := decide_eq_true (by omega)
          clear c6
          obtain rfl := Option.some.inj H
          go_wp2
          go_ret
          exact ⟨by first | rfl | (simp [errW_none, errW_some] <;> rfl) | (simp [*, errW_none, errW_some] <;> rfl), by repeat (first | (with_reducible first | exact HB.out | apply below_alloc | apply pw_below_drewN | apply below_drew1) | exact HB.out)⟩
        · rw [if_neg c6] at H
          have c6b0 : decide (1000 < (l0.length : Int)) = false := decide_eq_false c6
          have c6b1 : decide (1000 < l0.length) = false := decide_eq_false (by omega)
          clear c6
          have H' := Aside0.mk H
          clear H
          go_wp2
          go_loopg [21] kj2 (fun kq v21 w' => ∃ (x21_2 : Int), v21 = .int .i64 x21_2 ∧ Aside0 (glossatorref3_CheckEvents.l0 kq l0 l0 (l0.length : Int) x21_2 = some r) ∧ Aside0 (kq ≤ kj2) ∧ Aside0 (Below w.heap.size w w'))
          case atStart => exact ⟨(0), (by first | rfl | (simp; done) | (simp [*]; done) | (simp [isEmpty_bne]; done)), H', ⟨Nat.le_refl _⟩, ⟨by repeat (first | (with_reducible first | exact HB.out | apply below_alloc | apply pw_below_drewN | apply below_drew1) | exact HB.out)⟩⟩
          case round =>
            clear H'
            try clear c1
            try clear p2
            try clear c4
            try clear c4b0
            try clear c5
            try clear c6
            try clear c6b0
            try clear c6b1
            try clear p2
            obtain ⟨x21_2, rfl, HA, HK2, HB⟩ := hrel
            cases gk with
            | zero => exact absurd HA.out (by simp [glossatorref3_CheckEvents.l0])
            | succ k2 =>
              have H := HA.out
              clear HA
              simp only [glossatorref3_CheckEvents.l0] at H
              by_cases c7 : x21_2 < (l0.length : Int)
              · rw [if_pos c7] at H
                have c7b0 : decide (x21_2 < (l0.length : Int)) = true := decide_eq_true c7
                clear c7
                by_cases c8 : 0 ≤ x21_2
                · rw [if_pos c8] at H
                  have c8b0 : decide (0 ≤ x21_2) = true := decide_eq_true c8
                  clear c8
                  by_cases c9 : x21_2 < (l0.length : Int)
                  · rw [if_pos c9] at H
                    have c9b0 : decide (x21_2 < (l0.length : Int)) = true := decide_eq_true c9
                    clear c9
                    by_cases c10 : ((rd_T58 l0 x21_2).f2) < 1
                    · rw [if_pos c10] at H
                      have c10b0 : decide (((rd_T58 l0 x21_2).f2) < 1) = true := decide_eq_true c10
                      clear c10
                      obtain rfl := Option.some.inj H
                      have p146 : 0 ≤ (x21_2 : Int) := of_decide_eq_true (by first | (with_reducible assumption) | assumption)
                      have q146 : x21_2 < (l0.length : Int) := of_decide_eq_true (by first | (with_reducible assumption) | assumption)
                      obtain ⟨ad146, e146, hx146_0, hx146_1, hx146_2⟩ := at_T58 HR0.out x21_2 p146 q146
                      cases e146
                      replace hx146_0 := (HB.out.cell (World.block_lt_of_cell? w _ hx146_0)).trans hx146_0
                      replace hx146_1 := (HB.out.cell (World.block_lt_of_cell? w _ hx146_1)).trans hx146_1
                      replace hx146_2 := (HB.out.cell (World.block_lt_of_cell? w _ hx146_2)).trans hx146_2
                      replace p146 := eq_true p146
                      replace q146 := eq_true q146
                      go_wp2_with (first | ((with_reducible refine gate_dst (N := 6) rfl ?_); refine box_event ?hg (N := 6) ?hd (cs := #[.int .i64 0, .string (⟨#[]⟩ : ByteArray), .int .i64 0]) (t := 58) ?hr ?_; (case hd => rfl); (case hg => rfl); (case hr => first | (go_simp; done) | (go_simp; rfl)); intro gb147 hg w11 hbox hb; have n0_ := Aside0.mk (below_step (by repeat (first | (with_reducible first | exact HB.out | apply below_alloc | apply pw_below_drewN | apply below_drew1) | exact HB.out)) hb); have n1_ := Aside0.mk (hbox); have n2_ := Aside0.mk ((by rw [hg]; exact (below_size (by repeat (first | (with_reducible first | exact HB.out | apply below_alloc | apply pw_below_drewN | apply below_drew1) | exact HB.out))) : w.heap.size ≤ gb147)); have n3_ := Aside0.mk ((by rw [hg]; exact (below_size (by repeat (first | (with_reducible first | exact HB.out | apply below_alloc | apply pw_below_drewN | apply below_drew1) | exact HB.out))) : w.heap.size ≤ gb147)); clear HB; have HB := n0_; have BK147 := n1_; have GW147 := n2_; have GE147 := n3_; clear n0_ n1_ n2_ n3_; clear hb hbox hg; have hcz12_0 : w11.cell? ⟨gb147, 0, none⟩ = some (.int .i64 0) := (blk_cell BK147.out 0).trans rfl; have hcz12_1 : w11.cell? ⟨gb147, 1, none⟩ = some (.string (⟨#[]⟩ : ByteArray)) := (blk_cell BK147.out 1).trans rfl; have hcz12_2 : w11.cell? ⟨gb147, 2, none⟩ = some (.int .i64 0) := (blk_cell BK147.out 2).trans rfl; have hfz12_0 := blk_frozen BK147.out 0; have hfz12_1 := blk_frozen BK147.out 1; have hfz12_2 := blk_frozen BK147.out 2))
                      go_ret
                      exact ⟨by first | rfl | (simp [errW_none, errW_some] <;> rfl) | (simp [*, errW_none, errW_some] <;> rfl), by repeat (first | (with_reducible first | exact HB.out | apply below_alloc | apply pw_below_drewN | apply below_drew1 | refine below_set ?_ GE147.out) | exact HB.out)⟩
                    · rw [if_neg c10] at H
                      have c10b0 : decide (((rd_T58 l0 x21_2).f2) < 1) = false := decide_eq_false c10
                      clear c10
                      by_cases c13 : ((rd_T58 l0 x21_2).f2) > 3
                      · rw [if_pos c13] at H
                        have c13b0 : decide (3 < ((rd_T58 l0 x21_2).f2)) = true := decide_eq_true c13
                        clear c13
                        obtain rfl := Option.some.inj H
                        have p146 : 0 ≤ (x21_2 : Int) := of_decide_eq_true (by first | (with_reducible assumption) | assumption)
                        have q146 : x21_2 < (l0.length : Int) := of_decide_eq_true (by first | (with_reducible assumption) | assumption)
                        obtain ⟨ad146, e146, hx146_0, hx146_1, hx146_2⟩ := at_T58 HR0.out x21_2 p146 q146
                        cases e146
                        replace hx146_0 := (HB.out.cell (World.block_lt_of_cell? w _ hx146_0)).trans hx146_0
                        replace hx146_1 := (HB.out.cell (World.block_lt_of_cell? w _ hx146_1)).trans hx146_1
                        replace hx146_2 := (HB.out.cell (World.block_lt_of_cell? w _ hx146_2)).trans hx146_2
                        replace p146 := eq_true p146
                        replace q146 := eq_true q146
                        go_wp2_with (first | ((with_reducible refine gate_dst (N := 6) rfl ?_); refine box_event ?hg (N := 6) ?hd (cs := #[.int .i64 0, .string (⟨#[]⟩ : ByteArray), .int .i64 0]) (t := 58) ?hr ?_; (case hd => rfl); (case hg => rfl); (case hr => first | (go_simp; done) | (go_simp; rfl)); intro gb147 hg w14 hbox hb; have n0_ := Aside0.mk (below_step (by repeat (first | (with_reducible first | exact HB.out | apply below_alloc | apply pw_below_drewN | apply below_drew1) | exact HB.out)) hb); have n1_ := Aside0.mk (hbox); have n2_ := Aside0.mk ((by rw [hg]; exact (below_size (by repeat (first | (with_reducible first | exact HB.out | apply below_alloc | apply pw_below_drewN | apply below_drew1) | exact HB.out))) : w.heap.size ≤ gb147)); have n3_ := Aside0.mk ((by rw [hg]; exact (below_size (by repeat (first | (with_reducible first | exact HB.out | apply below_alloc | apply pw_below_drewN | apply below_drew1) | exact HB.out))) : w.heap.size ≤ gb147)); clear HB; have HB := n0_; have BK147 := n1_; have GW147 := n2_; have GE147 := n3_; clear n0_ n1_ n2_ n3_; clear hb hbox hg; have hcz15_0 : w14.cell? ⟨gb147, 0, none⟩ = some (.int .i64 0) := (blk_cell BK147.out 0).trans rfl; have hcz15_1 : w14.cell? ⟨gb147, 1, none⟩ = some (.string (⟨#[]⟩ : ByteArray)) := (blk_cell BK147.out 1).trans rfl; have hcz15_2 : w14.cell? ⟨gb147, 2, none⟩ = some (.int .i64 0) := (blk_cell BK147.out 2).trans rfl; have hfz15_0 := blk_frozen BK147.out 0; have hfz15_1 := blk_frozen BK147.out 1; have hfz15_2 := blk_frozen BK147.out 2))
                        go_ret
                        exact ⟨by first | rfl | (simp [errW_none, errW_some] <;> rfl) | (simp [*, errW_none, errW_some] <;> rfl), by repeat (first | (with_reducible first | exact HB.out | apply below_alloc | apply pw_below_drewN | apply below_drew1 | refine below_set ?_ GE147.out) | exact HB.out)⟩
                      · rw [if_neg c13] at H
                        have c13b0 : decide (3 < ((rd_T58 l0 x21_2).f2)) = false := decide_eq_false c13
                        clear c13
                        have H' := Aside0.mk H
                        clear H
                        have p146 : 0 ≤ (x21_2 : Int) := of_decide_eq_true (by first | (with_reducible assumption) | assumption)
                        have q146 : x21_2 < (l0.length : Int) := of_decide_eq_true (by first | (with_reducible assumption) | assumption)
                        obtain ⟨ad146, e146, hx146_0, hx146_1, hx146_2⟩ := at_T58 HR0.out x21_2 p146 q146
                        cases e146
                        replace hx146_0 := (HB.out.cell (World.block_lt_of_cell? w _ hx146_0)).trans hx146_0
                        replace hx146_1 := (HB.out.cell (World.block_lt_of_cell? w _ hx146_1)).trans hx146_1
                        replace hx146_2 := (HB.out.cell (World.block_lt_of_cell? w _ hx146_2)).trans hx146_2
                        replace p146 := eq_true p146
                        replace q146 := eq_true q146
                        go_wp2_with (first | ((with_reducible refine gate_dst (N := 6) rfl ?_); refine box_event ?hg (N := 6) ?hd (cs := #[.int .i64 0, .string (⟨#[]⟩ : ByteArray), .int .i64 0]) (t := 58) ?hr ?_; (case hd => rfl); (case hg => rfl); (case hr => first | (go_simp; done) | (go_simp; rfl)); intro gb147 hg w16 hbox hb; have n0_ := Aside0.mk (below_step (by repeat (first | (with_reducible first | exact HB.out | apply below_alloc | apply pw_below_drewN | apply below_drew1) | exact HB.out)) hb); have n1_ := Aside0.mk (hbox); have n2_ := Aside0.mk ((by rw [hg]; exact (below_size (by repeat (first | (with_reducible first | exact HB.out | apply below_alloc | apply pw_below_drewN | apply below_drew1) | exact HB.out))) : w.heap.size ≤ gb147)); have n3_ := Aside0.mk ((by rw [hg]; exact (below_size (by repeat (first | (with_reducible first | exact HB.out | apply below_alloc | apply pw_below_drewN | apply below_drew1) | exact HB.out))) : w.heap.size ≤ gb147)); clear HB; have HB := n0_; have BK147 := n1_; have GW147 := n2_; have GE147 := n3_; clear n0_ n1_ n2_ n3_; clear hb hbox hg; have hcz17_0 : w16.cell? ⟨gb147, 0, none⟩ = some (.int .i64 0) := (blk_cell BK147.out 0).trans rfl; have hcz17_1 : w16.cell? ⟨gb147, 1, none⟩ = some (.string (⟨#[]⟩ : ByteArray)) := (blk_cell BK147.out 1).trans rfl; have hcz17_2 : w16.cell? ⟨gb147, 2, none⟩ = some (.int .i64 0) := (blk_cell BK147.out 2).trans rfl; have hfz17_0 := blk_frozen BK147.out 0; have hfz17_1 := blk_frozen BK147.out 1; have hfz17_2 := blk_frozen BK147.out 2))
                        go_roundg k2
                        case measure => have := HJ2.out; have := HK2.out; omega
                        case rel => exact ⟨(wrap64 (x21_2 + 1)), (by first | rfl | (simp; done) | (simp [*]; done) | (simp [isEmpty_bne]; done)), H', ⟨by have := HJ2.out; have := HK2.out; omega⟩, ⟨by repeat (first | (with_reducible first | exact HB.out | apply below_alloc | apply pw_below_drewN | apply below_drew1 | refine below_set ?_ GE147.out) | exact HB.out)⟩⟩
                  · rw [if_neg c9] at H
                    exact absurd H (by simp)
                · rw [if_neg c8] at H
                  exact absurd H (by simp)
              · rw [if_neg c7] at H
                have c7b0 : decide (x21_2 < (l0.length : Int)) = false := decide_eq_false c7
                clear c7
                have H' := Aside0.mk H
                clear H
                go_wp2
                go_loopg [7, 36] k2 (fun kq v7 v36 w' => ∃ (x7_3 : Int) (x36_3 : Int), v7 = .int .i64 x7_3 ∧ v36 = .int .i64 x36_3 ∧ Aside0 (glossatorref3_CheckEvents.l1 kq x7_3 l0 (l0.length : Int) x36_3 = some r) ∧ Aside0 (kq ≤ k2) ∧ Aside0 (Below w.heap.size w w'))
                case atStart => exact ⟨(0), (0), (by first | rfl | (simp; done) | (simp [*]; done) | (simp [isEmpty_bne]; done)), (by first | rfl | (simp; done) | (simp [*]; done) | (simp [isEmpty_bne]; done)), H', ⟨Nat.le_refl _⟩, ⟨by repeat (first | (with_reducible first | exact HB.out | apply below_alloc | apply pw_below_drewN | apply below_drew1) | exact HB.out)⟩⟩
                case round =>
                  clear H'
                  try clear c1
                  try clear p1
                  try clear q1
                  try clear hx1
                  try clear p2
                  try clear c4
                  try clear c4b0
                  try clear c5
                  try clear c6
                  try clear c6b0
                  try clear c6b1
                  try clear p6
                  try clear c7
                  try clear c7b0
                  try clear c8
                  try clear c8b0
                  try clear c9
                  try clear c9b0
                  try clear c10
                  try clear c10b0
                  try clear c13
                  try clear c13b0
                  try clear p14
                  try clear q14
                  try clear hx14
                  try clear hcz12_0
                  try clear hcz12_1
                  try clear hcz12_2
                  try clear hcz15_0
                  try clear hcz15_1
                  try clear hcz15_2
                  try clear hcz17_0
                  try clear hcz17_1
                  try clear hcz17_2
                  try clear hfz12_0
                  try clear hfz12_1
                  try clear hfz12_2
                  try clear hfz15_0
                  try clear hfz15_1
                  try clear hfz15_2
                  try clear hfz17_0
                  try clear hfz17_1
                  try clear hfz17_2
                  try clear hx146_0
                  try clear hx146_1
                  try clear hx146_2
                  try clear p146
                  try clear p2
                  try clear q146
                  obtain ⟨x7_3, x36_3, rfl, rfl, HA, HK3, HB⟩ := hrel
                  cases gk with
                  | zero => exact absurd HA.out (by simp [glossatorref3_CheckEvents.l1])
                  | succ k3 =>
                    have H := HA.out
                    clear HA
                    simp only [glossatorref3_CheckEvents.l1] at H
                    by_cases c18 : x36_3 < (l0.length : Int)
                    · rw [if_pos c18] at H
                      have c18b0 : decide (x36_3 < (l0.length : Int)) = true := decide_eq_true c18
                      clear c18
                      by_cases c19 : 0 ≤ x36_3
                      · rw [if_pos c19] at H
                        have c19b0 : decide (0 ≤ x36_3) = true := decide_eq_true c19
                        clear c19
                        by_cases c20 : x36_3 < (l0.length : Int)
                        · rw [if_pos c20] at H
                          have c20b0 : decide (x36_3 < (l0.length : Int)) = true := decide_eq_true c20
                          clear c20
                          by_cases c21 : ((rd_T58 l0 x36_3).f0) < x7_3
                          · rw [if_pos c21] at H
                            have c21b0 : decide (((rd_T58 l0 x36_3).f0) < x7_3) = true := decide_eq_true c21
                            clear c21
                            obtain rfl := Option.some.inj H
                            have p148 : 0 ≤ (x36_3 : Int) := of_decide_eq_true (by first | (with_reducible assumption) | assumption)
                            have q148 : x36_3 < (l0.length : Int) := of_decide_eq_true (by first | (with_reducible assumption) | assumption)
                            obtain ⟨ad148, e148, hx148_0, hx148_1, hx148_2⟩ := at_T58 HR0.out x36_3 p148 q148
                            cases e148
                            replace hx148_0 := (HB.out.cell (World.block_lt_of_cell? w _ hx148_0)).trans hx148_0
                            replace hx148_1 := (HB.out.cell (World.block_lt_of_cell? w _ hx148_1)).trans hx148_1
                            replace hx148_2 := (HB.out.cell (World.block_lt_of_cell? w _ hx148_2)).trans hx148_2
                            replace p148 := eq_true p148
                            replace q148 := eq_true q148
                            go_wp2_with (first | ((with_reducible refine gate_dst (N := 9) rfl ?_); refine box_event ?hg (N := 9) ?hd (cs := #[.int .i64 0, .string (⟨#[]⟩ : ByteArray), .int .i64 0]) (t := 58) ?hr ?_; (case hd => rfl); (case hg => rfl); (case hr => first | (go_simp; done) | (go_simp; rfl)); intro gb149 hg w22 hbox hb; have n0_ := Aside0.mk (below_step (by repeat (first | (with_reducible first | exact HB.out | apply below_alloc | apply pw_below_drewN | apply below_drew1) | exact HB.out)) hb); have n1_ := Aside0.mk (hbox); have n2_ := Aside0.mk ((by rw [hg]; exact (below_size (by repeat (first | (with_reducible first | exact HB.out | apply below_alloc | apply pw_below_drewN | apply below_drew1) | exact HB.out))) : w.heap.size ≤ gb149)); have n3_ := Aside0.mk ((by rw [hg]; exact (below_size (by repeat (first | (with_reducible first | exact HB.out | apply below_alloc | apply pw_below_drewN | apply below_drew1) | exact HB.out))) : w.heap.size ≤ gb149)); clear HB; have HB := n0_; have BK149 := n1_; have GW149 := n2_; have GE149 := n3_; clear n0_ n1_ n2_ n3_; clear hb hbox hg; have hcz23_0 : w22.cell? ⟨gb149, 0, none⟩ = some (.int .i64 0) := (blk_cell BK149.out 0).trans rfl; have hcz23_1 : w22.cell? ⟨gb149, 1, none⟩ = some (.string (⟨#[]⟩ : ByteArray)) := (blk_cell BK149.out 1).trans rfl; have hcz23_2 : w22.cell? ⟨gb149, 2, none⟩ = some (.int .i64 0) := (blk_cell BK149.out 2).trans rfl; have hfz23_0 := blk_frozen BK149.out 0; have hfz23_1 := blk_frozen BK149.out 1; have hfz23_2 := blk_frozen BK149.out 2))
                            go_ret
                            exact ⟨by first | rfl | (simp [errW_none, errW_some] <;> rfl) | (simp [*, errW_none, errW_some] <;> rfl), by repeat (first | (with_reducible first | exact HB.out | apply below_alloc | apply pw_below_drewN | apply below_drew1 | refine below_set ?_ GE149.out) | exact HB.out)⟩
                          · rw [if_neg c21] at H
                            have c21b0 : decide (((rd_T58 l0 x36_3).f0) < x7_3) = false := decide_eq_false c21
                            clear c21
                            by_cases c24 : ((rd_T58 l0 x36_3).f0) > 1000000000000
                            · rw [if_pos c24] at H
                              have c24b0 : decide (1000000000000 < ((rd_T58 l0 x36_3).f0)) = true := decide_eq_true c24
                              clear c24
                              obtain rfl := Option.some.inj H
                              have p148 : 0 ≤ (x36_3 : Int) := of_decide_eq_true (by first | (with_reducible assumption) | assumption)
                              have q148 : x36_3 < (l0.length : Int) := of_decide_eq_true (by first | (with_reducible assumption) | assumption)
                              obtain ⟨ad148, e148, hx148_0, hx148_1, hx148_2⟩ := at_T58 HR0.out x36_3 p148 q148
                              cases e148
                              replace hx148_0 := (HB.out.cell (World.block_lt_of_cell? w _ hx148_0)).trans hx148_0
                              replace hx148_1 := (HB.out.cell (World.block_lt_of_cell? w _ hx148_1)).trans hx148_1
                              replace hx148_2 := (HB.out.cell (World.block_lt_of_cell? w _ hx148_2)).trans hx148_2
                              replace p148 := eq_true p148
                              replace q148 := eq_true q148
                              go_wp2_with (first | ((with_reducible refine gate_dst (N := 9) rfl ?_); refine box_event ?hg (N := 9) ?hd (cs := #[.int .i64 0, .string (⟨#[]⟩ : ByteArray), .int .i64 0]) (t := 58) ?hr ?_; (case hd => rfl); (case hg => rfl); (case hr => first | (go_simp; done) | (go_simp; rfl)); intro gb149 hg w25 hbox hb; have n0_ := Aside0.mk (below_step (by repeat (first | (with_reducible first | exact HB.out | apply below_alloc | apply pw_below_drewN | apply below_drew1) | exact HB.out)) hb); have n1_ := Aside0.mk (hbox); have n2_ := Aside0.mk ((by rw [hg]; exact (below_size (by repeat (first | (with_reducible first | exact HB.out | apply below_alloc | apply pw_below_drewN | apply below_drew1) | exact HB.out))) : w.heap.size ≤ gb149)); have n3_ := Aside0.mk ((by rw [hg]; exact (below_size (by repeat (first | (with_reducible first | exact HB.out | apply below_alloc | apply pw_below_drewN | apply below_drew1) | exact HB.out))) : w.heap.size ≤ gb149)); clear HB; have HB := n0_; have BK149 := n1_; have GW149 := n2_; have GE149 := n3_; clear n0_ n1_ n2_ n3_; clear hb hbox hg; have hcz26_0 : w25.cell? ⟨gb149, 0, none⟩ = some (.int .i64 0) := (blk_cell BK149.out 0).trans rfl; have hcz26_1 : w25.cell? ⟨gb149, 1, none⟩ = some (.string (⟨#[]⟩ : ByteArray)) := (blk_cell BK149.out 1).trans rfl; have hcz26_2 : w25.cell? ⟨gb149, 2, none⟩ = some (.int .i64 0) := (blk_cell BK149.out 2).trans rfl; have hfz26_0 := blk_frozen BK149.out 0; have hfz26_1 := blk_frozen BK149.out 1; have hfz26_2 := blk_frozen BK149.out 2))
                              go_ret
                              exact ⟨by first | rfl | (simp [errW_none, errW_some] <;> rfl) | (simp [*, errW_none, errW_some] <;> rfl), by repeat (first | (with_reducible first | exact HB.out | apply below_alloc | apply pw_below_drewN | apply below_drew1 | refine below_set ?_ GE149.out) | exact HB.out)⟩
                            · rw [if_neg c24] at H
                              have c24b0 : decide (1000000000000 < ((rd_T58 l0 x36_3).f0)) = false := decide_eq_false c24
                              clear c24
                              have H' := Aside0.mk H
                              clear H
                              have p148 : 0 ≤ (x36_3 : Int) := of_decide_eq_true (by first | (with_reducible assumption) | assumption)
                              have q148 : x36_3 < (l0.length : Int) := of_decide_eq_true (by first | (with_reducible assumption) | assumption)
                              obtain ⟨ad148, e148, hx148_0, hx148_1, hx148_2⟩ := at_T58 HR0.out x36_3 p148 q148
                              cases e148
                              replace hx148_0 := (HB.out.cell (World.block_lt_of_cell? w _ hx148_0)).trans hx148_0
                              replace hx148_1 := (HB.out.cell (World.block_lt_of_cell? w _ hx148_1)).trans hx148_1
                              replace hx148_2 := (HB.out.cell (World.block_lt_of_cell? w _ hx148_2)).trans hx148_2
                              replace p148 := eq_true p148
                              replace q148 := eq_true q148
                              go_wp2_with (first | ((with_reducible refine gate_dst (N := 9) rfl ?_); refine box_event ?hg (N := 9) ?hd (cs := #[.int .i64 0, .string (⟨#[]⟩ : ByteArray), .int .i64 0]) (t := 58) ?hr ?_; (case hd => rfl); (case hg => rfl); (case hr => first | (go_simp; done) | (go_simp; rfl)); intro gb149 hg w27 hbox hb; have n0_ := Aside0.mk (below_step (by repeat (first | (with_reducible first | exact HB.out | apply below_alloc | apply pw_below_drewN | apply below_drew1) | exact HB.out)) hb); have n1_ := Aside0.mk (hbox); have n2_ := Aside0.mk ((by rw [hg]; exact (below_size (by repeat (first | (with_reducible first | exact HB.out | apply below_alloc | apply pw_below_drewN | apply below_drew1) | exact HB.out))) : w.heap.size ≤ gb149)); have n3_ := Aside0.mk ((by rw [hg]; exact (below_size (by repeat (first | (with_reducible first | exact HB.out | apply below_alloc | apply pw_below_drewN | apply below_drew1) | exact HB.out))) : w.heap.size ≤ gb149)); clear HB; have HB := n0_; have BK149 := n1_; have GW149 := n2_; have GE149 := n3_; clear n0_ n1_ n2_ n3_; clear hb hbox hg; have hcz28_0 : w27.cell? ⟨gb149, 0, none⟩ = some (.int .i64 0) := (blk_cell BK149.out 0).trans rfl; have hcz28_1 : w27.cell? ⟨gb149, 1, none⟩ = some (.string (⟨#[]⟩ : ByteArray)) := (blk_cell BK149.out 1).trans rfl; have hcz28_2 : w27.cell? ⟨gb149, 2, none⟩ = some (.int .i64 0) := (blk_cell BK149.out 2).trans rfl; have hfz28_0 := blk_frozen BK149.out 0; have hfz28_1 := blk_frozen BK149.out 1; have hfz28_2 := blk_frozen BK149.out 2))
                              go_roundg k3
                              case measure => have := HJ2.out; have := HK2.out; have := HK3.out; omega
                              case rel => exact ⟨((rd_T58 l0 x36_3).f0), (wrap64 (x36_3 + 1)), (by first | rfl | (simp; done) | (simp [*]; done) | (simp [isEmpty_bne]; done)), (by first | rfl | (simp; done) | (simp [*]; done) | (simp [isEmpty_bne]; done)), H', ⟨by have := HJ2.out; have := HK2.out; have := HK3.out; omega⟩, ⟨by repeat (first | (with_reducible first | exact HB.out | apply below_alloc | apply pw_below_drewN | apply below_drew1 | refine below_set ?_ GE149.out) | exact HB.out)⟩⟩
                        · rw [if_neg c20] at H
                          exact absurd H (by simp)
                      · rw [if_neg c19] at H
                        exact absurd H (by simp)
                    · rw [if_neg c18] at H
                      have c18b0 : decide (x36_3 < (l0.length : Int)) = false := decide_eq_false c18
                      clear c18
                      obtain rfl := Option.some.inj H
                      go_wp2
                      go_ret
                      exact ⟨by first | rfl | (simp [errW_none, errW_some] <;> rfl) | (simp [*, errW_none, errW_some] <;> rfl), by repeat (first | (with_reducible first | exact HB.out | apply below_alloc | apply pw_below_drewN | apply below_drew1) | exact HB.out)⟩

end Go.Proofs.Ytcikmpcacakfbaa.QFilewatchBatches
