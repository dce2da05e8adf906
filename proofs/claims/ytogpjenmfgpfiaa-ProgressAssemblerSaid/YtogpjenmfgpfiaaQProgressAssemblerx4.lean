-- Written by gen.py (this repo's wip/), which runs the kit's print.py with more arms. Lean checks it.
import Derived.Test.YtogpjenmfgpfiaaQProgressAssemblerx0
namespace Go.Proofs.Ytogpjenmfgpfiaa.QProgressAssembler
open Go.RowKit Go.Proofs.YtogpjenmfgpfiaaW.PrintWords Go.Proofs.YtogpjenmfgpfiaaW.PrintLast Go.Proofs.YtogpjenmfgpfiaaW.PrintMore
attribute [local go_sem] max2_int min2_int max_two min_two max_three min_three max_four min_four   -- for this text's walks alone
set_option linter.unusedVariables false
set_option linter.unusedSimpArgs false

private theorem isEmpty_bne {α : Type} [BEq α] (l : List α) : (l != []) = !l.isEmpty := by cases l <;> rfl

/-! ### api_QChunk: function 49 -/
def api_QChunk.f (l0 : List (S51)) : Option ((List (S51))) := if ([] : List (S51)).length + l0.length < 2932031007402 then (some (([] : List (S51)) ++ l0)) else (none)
set_option maxHeartbeats 8000000 in
set_option maxRecDepth 100000 in
theorem api_QChunk.calls (P0_ : Nat → Prop) (A0 : Option Addr) (c0 : Nat) (l0 : List (S51)) (r : List (S51)) (w : World) (hs0 : Kd.V k51 51 w w.heap.size (fun k_ => P0_ k_) (.slice A0 l0.length c0) l0) (h : api_QChunk.f l0 = some r) :
    Calls Try.prog 49 #[.slice A0 l0.length c0] w fun e w' => ∃ v0_ : Value, e = .returned (v0_) ∧ Kd.N k51 51 w' w.heap.size (fun k_ => (P0_ k_ ∨ w.heap.size ≤ k_)) v0_ r ∧ Below w.heap.size w w' := by
  have HO0 := Aside0.mk (show Kd.V k51 51 w w.heap.size (fun k_ => (P0_ k_ ∨ w.heap.size ≤ k_)) (.slice A0 l0.length c0) l0 from Kd.V_mono hs0 (fun k_ hk => .inl hk))
  have HB := Aside0.mk (Below.refl w.heap.size w)
  have H : (if ([] : List (S51)).length + l0.length < 2932031007402 then (some (([] : List (S51)) ++ l0)) else (none)) = some r := h
  clear h
  by_cases c2 : ([] : List (S51)).length + l0.length < 2932031007402
  · rw [if_pos c2] at H
    have LMc2 := Aside0.mk c2
    clear c2
    obtain ⟨y146, hy146⟩ : ∃ y_ : List (S51), y_ = (([] : List (S51)) ++ l0) := ⟨_, rfl⟩
    replace H : (some y146) = some r := by first | (rw [hy146]; with_reducible exact H) | (have H2_ := (Option.bind_some _ _).symm.trans H; rw [hy146]; with_reducible exact H2_) | (have H2_ := (Option.bind_some _ _).symm.trans H; with_reducible exact H2_) | with_reducible exact H | (rw [hy146]; exact H) | exact H
    have Ny146 := Aside0.mk hy146
    clear hy146
    obtain rfl := Option.some.inj H
    go_enter Try.func49, Try.ntmps49
    go_wp2_with (first | ((with_reducible refine gate_builtin (b := .append) (xs := #[.const (.slice none 0 0), .tmp 3]) rfl ?_); at_builtin; refine Kd.N_append_rows k51 (w0 := w) w.heap.size rfl (.const (.slice none 0 0)) (.tmp 3) 47 51 (.agg #[(.int .i64 0), (.int .i64 0), (.bool false), (.slice none 0 0)]) 48 rfl Try.underlying47 info51 rfl (by decide) (by omega) (.slice none 0 0) ([] : List (S51)) l0 _ _ _ (fun k_ => (P0_ k_ ∨ w.heap.size ≤ k_)) (fun k_ => ((fun k_ => (P0_ k_ ∨ w.heap.size ≤ k_))) k_ ∧ some k_ ≠ (.slice none 0 0 : Value).ownBlock) rfl rfl ?aO ?aR (fun _ hk => hk) ?aF ?aB ?aS ?aL ?_; (case aR => exact (by skip; exact Kd.V_F (Kd.V_mono (ok' := (fun k_ => ((fun k_ => (P0_ k_ ∨ w.heap.size ≤ k_))) k_ ∧ some k_ ≠ (.slice none 0 0 : Value).ownBlock)) (HO0.out) (fun k_ hk => ⟨hk, (by simp [Value.ownBlock])⟩)))); (case aB => exact (by repeat (first | (with_reducible first | exact HB.out | apply below_alloc | apply pw_below_drewN | apply below_drew1) | exact HB.out))); (case aF => exact (fun k_ hk => (.inr (Nat.le_trans (below_size (by repeat (first | (with_reducible first | exact HB.out | apply below_alloc | apply pw_below_drewN | apply below_drew1) | exact HB.out))) hk)))); (case aO => exact ((Kd.N_nil _ _ _ _ (fun k_ => (P0_ k_ ∨ w.heap.size ≤ k_))))); (case aS => exact (below_size (by repeat (first | (with_reducible first | exact HB.out | apply below_alloc | apply pw_below_drewN | apply below_drew1) | exact HB.out)))); (case aL => have := LMc2.out; omega); intro v147 w3 ho hb hg hat; rw [← Ny146.out] at ho; have n0_ := Aside0.mk (Kd.V_afterv (Kd.V_apart_nil (by (with_reducible repeat (first | apply Kd.V_alloc | apply Kd.V_drewN | apply Kd.V_drew)); exact HO0.out)) hg hat); have n1_ := Aside0.mk (hb); have n2_ := Aside0.mk (ho); clear HO0; clear HB; have HO0 := n0_; have HB := n1_; have HO148 := n2_; clear n0_ n1_ n2_; clear ho hb hg hat))
    go_ret
    exact ⟨_, by first | rfl | (simp [errW_none, errW_some] <;> rfl) | (simp [*, errW_none, errW_some] <;> rfl), by (with_reducible repeat (first | apply Kd.N_alloc | apply Kd.N_drewN | apply Kd.N_drew)); exact HO148.out, by repeat (first | (with_reducible first | exact HB.out | apply below_alloc | apply pw_below_drewN | apply below_drew1) | exact HB.out)⟩
  · rw [if_neg c2] at H
    exact absurd H (by simp)

-- NOT PRINTED: function 20 (glossatorref3_AddChunk)

-- NOT PRINTED: function 21 (progress_Assembler_Result)

/-! ### glossatorref3_chunk: function 50 -/
def glossatorref3_chunk.l0 : Nat → Int → Int → List (S51) → Int → Int → Option (Int × Int × Bool × List Int × Bool)
  | 0, _, _, _, _, _ => none
  | k + 1, x1, x2, x10, x11, x12 => if x12 < x11 then (if 0 ≤ x12 then (if x12 < (x10.length : Int) then (if ((rd_T51 x10 x12).f0) = x1 then (if ((rd_T51 x10 x12).f1) = x2 then (some ((rd_T51 x10 x12).f0, (rd_T51 x10 x12).f1, (rd_T51 x10 x12).f2, (rd_T51 x10 x12).f3, true)) else (glossatorref3_chunk.l0 k x1 x2 x10 x11 (wrap64 (x12 + 1)))) else (glossatorref3_chunk.l0 k x1 x2 x10 x11 (wrap64 (x12 + 1)))) else (none)) else (none)) else (some (0, 0, false, ([] : List Int), false))
def glossatorref3_chunk.f (k : Nat) (l0 : List (S51)) (a1 : Int) (a2 : Int) : Option (Int × Int × Bool × List Int × Bool) := glossatorref3_chunk.l0 k a1 a2 l0 (l0.length : Int) 0
theorem glossatorref3_chunk.mono_l : ∀ k, (∀ y0 y1 y2 y3 y4, LeO (glossatorref3_chunk.l0 k y0 y1 y2 y3 y4) (glossatorref3_chunk.l0 (k + 1) y0 y1 y2 y3 y4))
  | 0 => fun _ _ _ _ _ r h => by simp [glossatorref3_chunk.l0] at h
  | k + 1 => by
    have ih0 := glossatorref3_chunk.mono_l k
    · intro y0 y1 y2 y3 y4
      unfold glossatorref3_chunk.l0
      repeat' first
      | (with_reducible exact ih0 _ _ _ _ _)
      | (with_reducible exact LeO.refl _)
      | (with_reducible exact LeO.none _)
      | (with_reducible refine LeO.ite ?_ ?_)
      | (with_reducible refine LeO.bind ?_ (fun _ => ?_))
      | exact ih0 _ _ _ _ _
      | exact LeO.none _
      | refine LeO.ite ?_ ?_
      | refine LeO.bind ?_ (fun _ => ?_)
theorem glossatorref3_chunk.mono : ∀ a0 a1 a2 k, LeO (glossatorref3_chunk.f k a0 a1 a2) (glossatorref3_chunk.f (k + 1) a0 a1 a2) := by
  intro a0 a1 a2 k
  have ih0 := glossatorref3_chunk.mono_l k
  unfold glossatorref3_chunk.f
  repeat' first
      | (with_reducible exact ih0 _ _ _ _ _)
      | (with_reducible exact LeO.refl _)
      | (with_reducible exact LeO.none _)
      | (with_reducible refine LeO.ite ?_ ?_)
      | (with_reducible refine LeO.bind ?_ (fun _ => ?_))
      | exact ih0 _ _ _ _ _
      | exact LeO.none _
      | refine LeO.ite ?_ ?_
      | refine LeO.bind ?_ (fun _ => ?_)
set_option maxHeartbeats 8000000 in
set_option maxRecDepth 100000 in
theorem glossatorref3_chunk.calls (k : Nat) (P0_ : Nat → Prop) (A0 : Option Addr) (c0 : Nat) (l0 : List (S51)) (a1 : Int) (a2 : Int) (r1 : Int) (r2 : Int) (r3 : Bool) (r4 : List Int) (r5 : Bool) (w : World) (hs0 : Kd.V k51 51 w w.heap.size (fun k_ => P0_ k_) (.slice A0 l0.length c0) l0) (h : glossatorref3_chunk.f k l0 a1 a2 = some (r1, r2, r3, r4, r5)) :
    Calls Try.prog 50 #[.slice A0 l0.length c0, .int .i64 a1, .int .i64 a2] w fun e w' => ∃ v3_ : Value, e = .returned (.tuple #[.agg #[.int .i64 r1, .int .i64 r2, .bool r3, v3_], .bool r5]) ∧ Kd.V (Kd.int .i64) 3 w' w.heap.size (fun k_ => (P0_ k_ ∨ w.heap.size ≤ k_)) v3_ r4 ∧ Below w.heap.size w w' := by
  have hu51 := Try.underlying51
  have HO0 := Aside0.mk (show Kd.V k51 51 w w.heap.size (fun k_ => (P0_ k_ ∨ w.heap.size ≤ k_)) (.slice A0 l0.length c0) l0 from Kd.V_mono hs0 (fun k_ hk => .inl hk))
  have HB := Aside0.mk (Below.refl w.heap.size w)
  have H : (glossatorref3_chunk.l0 k a1 a2 l0 (l0.length : Int) 0) = some (r1, r2, r3, r4, r5) := h
  clear h
  have H' := Aside0.mk H
  clear H
  go_enter Try.func50, Try.ntmps50
  go_wp2_with (first | ((with_reducible refine gate_dst (N := 6) rfl ?_); refine box_event ?hg (N := 6) ?hd (cs := #[.int .i64 0, .int .i64 0, .bool false, .slice none 0 0]) (t := 51) ?hr ?_; (case hd => rfl); (case hg => rfl); (case hr => first | (go_simp; done) | (go_simp; rfl)); intro gb165 hg w4 hbox hb; have n0_ := Aside0.mk (Kd.V_below (Kd.V_elderB (by (with_reducible repeat (first | apply Kd.V_alloc | apply Kd.V_drewN | apply Kd.V_drew)); exact HO0.out) gb165 (Nat.le_of_eq hg.symm)) hb); have n1_ := Aside0.mk (below_step (by repeat (first | (with_reducible first | exact HB.out | apply below_alloc | apply pw_below_drewN | apply below_drew1) | exact HB.out)) hb); have n2_ := Aside0.mk (hbox); have n3_ := Aside0.mk ((by rw [hg]; exact (below_size (by repeat (first | (with_reducible first | exact HB.out | apply below_alloc | apply pw_below_drewN | apply below_drew1) | exact HB.out))) : w.heap.size ≤ gb165)); have n4_ := Aside0.mk ((by rw [hg]; exact (below_size (by repeat (first | (with_reducible first | exact HB.out | apply below_alloc | apply pw_below_drewN | apply below_drew1) | exact HB.out))) : w.heap.size ≤ gb165)); clear HO0; clear HB; have HO0 := n0_; have HB := n1_; have BK165 := n2_; have GW165 := n3_; have GE165 := n4_; clear n0_ n1_ n2_ n3_ n4_; clear hb hbox hg))
  go_loopg [12] k (fun kq v12 w' => ∃ (x12_1 : Int) (x166000_1 : Int) (x166001_1 : Int) (x166002_1 : Bool), v12 = .int .i64 x12_1 ∧ Aside0 (glossatorref3_chunk.l0 kq a1 a2 l0 (l0.length : Int) x12_1 = some (r1, r2, r3, r4, r5)) ∧ Aside0 (kq ≤ k) ∧ Aside0 (Kd.V k51 51 w' w.heap.size (fun k_ => (P0_ k_ ∨ w.heap.size ≤ k_) ∧ k_ ≠ gb165) (.slice A0 l0.length c0) l0) ∧ Aside0 (w'.heap[gb165]? = some (.cells #[.int .i64 x166000_1, .int .i64 x166001_1, .bool x166002_1, (.slice none 0 0)] 51 (0, 0))) ∧ Aside0 (Below w.heap.size w w'))
  case atStart => exact ⟨(0), (0), (0), (false), (by first | rfl | (simp; done) | (simp [*]; done) | (simp [isEmpty_bne]; done)), H', ⟨Nat.le_refl _⟩, ⟨by (with_reducible repeat (first | apply Kd.V_alloc | apply Kd.V_drewN | apply Kd.V_drew)); exact HO0.out⟩, ⟨by (with_reducible repeat (first | refine blk_drewN ?_ _ | refine blk_drew ?_ | refine blk_alloc ?_ _)); exact BK165.out⟩, ⟨by repeat (first | (with_reducible first | exact HB.out | apply below_alloc | apply pw_below_drewN | apply below_drew1 | refine below_set ?_ GE165.out) | exact HB.out)⟩⟩
  case round =>
    clear H'
    try clear p2
    obtain ⟨x12_1, x166000_1, x166001_1, x166002_1, rfl, HA, HK1, HO_10, BK165, HB⟩ := hrel
    cases gk with
    | zero => exact absurd HA.out (by simp [glossatorref3_chunk.l0])
    | succ k1 =>
      have H := HA.out
      clear HA
      simp only [glossatorref3_chunk.l0] at H
      by_cases c5 : x12_1 < (l0.length : Int)
      · rw [if_pos c5] at H
        have c5b0 : decide (x12_1 < (l0.length : Int)) = true := decide_eq_true c5
        clear c5
        by_cases c6 : 0 ≤ x12_1
        · rw [if_pos c6] at H
          have c6b0 : decide (0 ≤ x12_1) = true := decide_eq_true c6
          clear c6
          by_cases c7 : x12_1 < (l0.length : Int)
          · rw [if_pos c7] at H
            have c7b0 : decide (x12_1 < (l0.length : Int)) = true := decide_eq_true c7
            clear c7
            by_cases c8 : ((rd_T51 l0 x12_1).f0) = a1
            · rw [if_pos c8] at H
              have c8b0 : (((rd_T51 l0 x12_1).f0) == a1) = true := beq_iff_eq.mpr c8
              have c8b1 : (((rd_T51 l0 x12_1).f0) != a1) = false := bne_eq_false_iff_eq.mpr c8
              clear c8
              by_cases c9 : ((rd_T51 l0 x12_1).f1) = a2
              · rw [if_pos c9] at H
                have c9b0 : (((rd_T51 l0 x12_1).f1) == a2) = true := beq_iff_eq.mpr c9
                have c9b1 : (((rd_T51 l0 x12_1).f1) != a2) = false := bne_eq_false_iff_eq.mpr c9
                clear c9
                simp only [Option.some.injEq, Prod.mk.injEq] at H
                obtain ⟨rfl, rfl, rfl, rfl, rfl⟩ := H
                have p166 : 0 ≤ (x12_1 : Int) := of_decide_eq_true (by first | (with_reducible assumption) | assumption)
                have q166 : x12_1 < (l0.length : Int) := of_decide_eq_true (by first | (with_reducible assumption) | assumption)
                obtain ⟨ad166, A166_3, c166_3, e166, hx166_0, hx166_1, hx166_2, hx166_3, hl166_3, hi166_3⟩ := at_T51 (Kd.V_reads' HO_10.out).2.2 x12_1 p166 q166
                cases e166
                obtain ⟨ce166, hce166, hMe166, hcc166⟩ := Kd.V_get HO_10.out z51 x12_1 p166 (by first | exact q166 | exact of_decide_eq_true (by first | (with_reducible assumption) | assumption) | (have e_ := (Kd.V_reads' HO_10.out).1; omega))
                obtain ⟨ua166_3, uc166_3, rfl, ul166_3, ge166_3⟩ := k51_openF hMe166
                have hv166_3 := hcc166 3 _ rfl
                rw [add_field _ _ 3 (by omega)] at hv166_3
                replace hv166_3 := Option.some.inj (hv166_3.symm.trans hx166_3)
                injection hv166_3 with hva_ hvn_ hvc_
                rw [hva_] at ge166_3
                rw [hvc_] at ul166_3
                have HL166_3 := Aside0.mk (show Kd.V (Kd.int .i64) 3 _ w.heap.size _ _ ((rd_T51 l0 x12_1).f3) from Kd.V_mk ul166_3 ge166_3)
                clear hva_ hvn_ hvc_ ge166_3 ul166_3
                clear hcc166 hce166
                have HR166_3 := Aside0.mk hi166_3
                have HC166_3 := Aside0.mk hl166_3
                clear hi166_3 hl166_3
                replace p166 := eq_true p166
                replace q166 := eq_true q166
                go_wp2_with (first | ((with_reducible refine gate_dst (N := 9) rfl ?_); refine box_event ?hg (N := 9) ?hd (cs := #[.int .i64 0, .int .i64 0, .bool false, .slice none 0 0]) (t := 51) ?hr ?_; (case hd => rfl); (case hg => rfl); (case hr => first | (go_simp; done) | (go_simp; rfl)); intro gb167 hg w10 hbox hb; have n0_ := Aside0.mk (Kd.V_below (Kd.V_elderB (by (with_reducible repeat (first | apply Kd.V_alloc | apply Kd.V_drewN | apply Kd.V_drew)); exact HO_10.out) gb167 (Nat.le_of_eq hg.symm)) hb); have n1_ := Aside0.mk (Kd.V_below (Kd.V_elderB (by (with_reducible repeat (first | apply Kd.V_alloc | apply Kd.V_drewN | apply Kd.V_drew)); exact HL166_3.out) gb167 (Nat.le_of_eq hg.symm)) hb); have n2_ := Aside0.mk (blk_below (g := gb165) (o := .cells #[.int .i64 x166000_1, .int .i64 x166001_1, .bool x166002_1, .slice none 0 0] 51 (0, 0)) (by (with_reducible repeat (first | refine blk_drewN ?_ _ | refine blk_drew ?_ | refine blk_alloc ?_ _)); exact BK165.out) hb); have n3_ := Aside0.mk (Kd.C_below (by repeat (first | (with_reducible exact HR166_3.out) | (with_reducible refine Kd.C_alloc ?_ _) | (with_reducible refine Kd.C_drewN ?_ _) | (with_reducible refine Kd.C_drew ?_) | exact HR166_3.out)) hb); have n4_ := Aside0.mk (below_step (by repeat (first | (with_reducible first | exact HB.out | apply below_alloc | apply pw_below_drewN | apply below_drew1 | refine below_set ?_ GE165.out) | exact HB.out)) hb); have n5_ := Aside0.mk (hbox); have n6_ := Aside0.mk ((by rw [hg]; exact (below_size (by repeat (first | (with_reducible first | exact HB.out | apply below_alloc | apply pw_below_drewN | apply below_drew1 | refine below_set ?_ GE165.out) | exact HB.out))) : w.heap.size ≤ gb167)); have n7_ := Aside0.mk ((by rw [hg]; exact (below_size (by repeat (first | (with_reducible first | exact HB.out | apply below_alloc | apply pw_below_drewN | apply below_drew1 | refine below_set ?_ GE165.out) | exact HB.out))) : w.heap.size ≤ gb167)); have n8_ := Aside0.mk ((by rw [hg]; exact Nat.ne_of_lt (blk_lt (g := gb165) (o := .cells #[.int .i64 x166000_1, .int .i64 x166001_1, .bool x166002_1, .slice none 0 0] 51 (0, 0)) (by (with_reducible repeat (first | refine blk_drewN ?_ _ | refine blk_drew ?_ | refine blk_alloc ?_ _)); exact BK165.out)) : gb165 ≠ gb167)); have n9_ := Aside0.mk ((by rw [hg]; exact Nat.ne_of_gt (blk_lt (g := gb165) (o := .cells #[.int .i64 x166000_1, .int .i64 x166001_1, .bool x166002_1, .slice none 0 0] 51 (0, 0)) (by (with_reducible repeat (first | refine blk_drewN ?_ _ | refine blk_drew ?_ | refine blk_alloc ?_ _)); exact BK165.out)) : gb167 ≠ gb165)); clear HO_10; clear HL166_3; clear BK165; clear HR166_3; clear HB; have HO_10 := n0_; have HL166_3 := n1_; have BK165 := n2_; have HR166_3 := n3_; have HB := n4_; have BK167 := n5_; have GW167 := n6_; have GE167 := n7_; have NB165_167 := n8_; have NB167_165 := n9_; clear n0_ n1_ n2_ n3_ n4_ n5_ n6_ n7_ n8_ n9_; clear hb hbox hg; have hnb11 := NB167_165.out; have hnc11 := NB165_167.out; have hcz12_0 : w10.cell? ⟨gb167, 0, none⟩ = some (.int .i64 0) := (blk_cell BK167.out 0).trans rfl; have hcz12_1 : w10.cell? ⟨gb167, 1, none⟩ = some (.int .i64 0) := (blk_cell BK167.out 1).trans rfl; have hcz12_2 : w10.cell? ⟨gb167, 2, none⟩ = some (.bool false) := (blk_cell BK167.out 2).trans rfl; have hcz12_3 : w10.cell? ⟨gb167, 3, none⟩ = some (.slice none 0 0) := (blk_cell BK167.out 3).trans rfl; have hfz12_0 := blk_frozen BK167.out 0; have hfz12_1 := blk_frozen BK167.out 1; have hfz12_2 := blk_frozen BK167.out 2; have hfz12_3 := blk_frozen BK167.out 3; have hcz13_0 : w10.cell? ⟨gb165, 0, none⟩ = some (.int .i64 x166000_1) := (blk_cell BK165.out 0).trans rfl; have hcz13_1 : w10.cell? ⟨gb165, 1, none⟩ = some (.int .i64 x166001_1) := (blk_cell BK165.out 1).trans rfl; have hcz13_2 : w10.cell? ⟨gb165, 2, none⟩ = some (.bool x166002_1) := (blk_cell BK165.out 2).trans rfl; have hcz13_3 : w10.cell? ⟨gb165, 3, none⟩ = some (.slice none 0 0) := (blk_cell BK165.out 3).trans rfl; have hfz13_0 := blk_frozen BK165.out 0; have hfz13_1 := blk_frozen BK165.out 1; have hfz13_2 := blk_frozen BK165.out 2; have hfz13_3 := blk_frozen BK165.out 3))
                refine bodyPost_ret (results_ct rfl _ _ gb165 51 #[.int .i64 ((rd_T51 l0 x12_1).f0), .int .i64 ((rd_T51 l0 x12_1).f1), .bool ((rd_T51 l0 x12_1).f2), .slice A166_3 ((rd_T51 l0 x12_1).f3).length c166_3] (0, 0) _ rfl (by (with_reducible repeat (first | refine blk_drewN ?_ _ | refine blk_drew ?_ | refine blk_alloc ?_ _)); refine blk_put (cs := #[.int .i64 ((rd_T51 l0 x12_1).f0), .int .i64 ((rd_T51 l0 x12_1).f1), .bool ((rd_T51 l0 x12_1).f2), .slice none 0 0]) ?_ 3 _ rfl; (with_reducible repeat (first | refine blk_drewN ?_ _ | refine blk_drew ?_ | refine blk_alloc ?_ _)); refine blk_put (cs := #[.int .i64 ((rd_T51 l0 x12_1).f0), .int .i64 ((rd_T51 l0 x12_1).f1), .bool x166002_1, .slice none 0 0]) ?_ 2 _ rfl; (with_reducible repeat (first | refine blk_drewN ?_ _ | refine blk_drew ?_ | refine blk_alloc ?_ _)); refine blk_put (cs := #[.int .i64 ((rd_T51 l0 x12_1).f0), .int .i64 x166001_1, .bool x166002_1, .slice none 0 0]) ?_ 1 _ rfl; (with_reducible repeat (first | refine blk_drewN ?_ _ | refine blk_drew ?_ | refine blk_alloc ?_ _)); refine blk_put (cs := #[.int .i64 x166000_1, .int .i64 x166001_1, .bool x166002_1, .slice none 0 0]) ?_ 0 _ rfl; (with_reducible repeat (first | refine blk_drewN ?_ _ | refine blk_drew ?_ | refine blk_alloc ?_ _)); refine blk_far ?_ NB165_167.out _; (with_reducible repeat (first | refine blk_drewN ?_ _ | refine blk_drew ?_ | refine blk_alloc ?_ _)); refine blk_far ?_ NB165_167.out _; (with_reducible repeat (first | refine blk_drewN ?_ _ | refine blk_drew ?_ | refine blk_alloc ?_ _)); refine blk_far ?_ NB165_167.out _; (with_reducible repeat (first | refine blk_drewN ?_ _ | refine blk_drew ?_ | refine blk_alloc ?_ _)); refine blk_far ?_ NB165_167.out _; (with_reducible repeat (first | refine blk_drewN ?_ _ | refine blk_drew ?_ | refine blk_alloc ?_ _)); exact BK165.out) Try.underlying51 rfl (by kernel_rfl)) rfl ?_
                exact ⟨_, by first | rfl | (simp [errW_none, errW_some] <;> rfl) | (simp [*, errW_none, errW_some] <;> rfl), by (with_reducible repeat (first | apply Kd.V_alloc | apply Kd.V_drewN | apply Kd.V_drew)); exact Kd.V_mono (Kd.V_far (p := ⟨gb165, 3, none⟩) (Kd.V_far (p := ⟨gb165, 2, none⟩) (Kd.V_far (p := ⟨gb165, 1, none⟩) (Kd.V_far (p := ⟨gb165, 0, none⟩) (Kd.V_far (p := ⟨gb167, 3, none⟩) (Kd.V_far (p := ⟨gb167, 2, none⟩) (Kd.V_far (p := ⟨gb167, 1, none⟩) (Kd.V_far (p := ⟨gb167, 0, none⟩) (Kd.V_mono (Kd.V_mono HL166_3.out (fun k_ hk => (⟨hk, hk.2⟩ : _ ∧ k_ ≠ gb167))) (fun k_ hk => (⟨hk, hk.1.1.2⟩ : _ ∧ k_ ≠ gb165))) (fun _ hk => hk.1.2) (.int .i64 ((rd_T51 l0 x12_1).f0))) (fun _ hk => hk.1.2) (.int .i64 ((rd_T51 l0 x12_1).f1))) (fun _ hk => hk.1.2) (.bool ((rd_T51 l0 x12_1).f2))) (fun _ hk => hk.1.2) (.slice A166_3 ((rd_T51 l0 x12_1).f3).length c166_3)) (fun _ hk => hk.2) (.int .i64 ((rd_T51 l0 x12_1).f0))) (fun _ hk => hk.2) (.int .i64 ((rd_T51 l0 x12_1).f1))) (fun _ hk => hk.2) (.bool ((rd_T51 l0 x12_1).f2))) (fun _ hk => hk.2) (.slice A166_3 ((rd_T51 l0 x12_1).f3).length c166_3)) (fun _ hk => hk.1.1.1.1), by repeat (first | (with_reducible first | exact HB.out | apply below_alloc | apply pw_below_drewN | apply below_drew1 | refine below_set ?_ GE165.out | refine below_set ?_ GE167.out) | exact HB.out)⟩
              · rw [if_neg c9] at H
                have c9b0 : (((rd_T51 l0 x12_1).f1) == a2) = false := beq_eq_false_iff_ne.mpr c9
                have c9b1 : (((rd_T51 l0 x12_1).f1) != a2) = true := bne_iff_ne.mpr c9
                have H' := Aside0.mk H
                clear H
                have p166 : 0 ≤ (x12_1 : Int) := of_decide_eq_true (by first | (with_reducible assumption) | assumption)
                have q166 : x12_1 < (l0.length : Int) := of_decide_eq_true (by first | (with_reducible assumption) | assumption)
                obtain ⟨ad166, A166_3, c166_3, e166, hx166_0, hx166_1, hx166_2, hx166_3, hl166_3, hi166_3⟩ := at_T51 (Kd.V_reads' HO_10.out).2.2 x12_1 p166 q166
                cases e166
                obtain ⟨ce166, hce166, hMe166, hcc166⟩ := Kd.V_get HO_10.out z51 x12_1 p166 (by first | exact q166 | exact of_decide_eq_true (by first | (with_reducible assumption) | assumption) | (have e_ := (Kd.V_reads' HO_10.out).1; omega))
                obtain ⟨ua166_3, uc166_3, rfl, ul166_3, ge166_3⟩ := k51_openF hMe166
                have hv166_3 := hcc166 3 _ rfl
                rw [add_field _ _ 3 (by omega)] at hv166_3
                replace hv166_3 := Option.some.inj (hv166_3.symm.trans hx166_3)
                injection hv166_3 with hva_ hvn_ hvc_
                rw [hva_] at ge166_3
                rw [hvc_] at ul166_3
                have HL166_3 := Aside0.mk (show Kd.V (Kd.int .i64) 3 _ w.heap.size _ _ ((rd_T51 l0 x12_1).f3) from Kd.V_mk ul166_3 ge166_3)
                clear hva_ hvn_ hvc_ ge166_3 ul166_3
                clear hcc166 hce166
                have HR166_3 := Aside0.mk hi166_3
                have HC166_3 := Aside0.mk hl166_3
                clear hi166_3 hl166_3
                replace p166 := eq_true p166
                replace q166 := eq_true q166
                go_wp2_with (first | ((with_reducible refine gate_dst (N := 9) rfl ?_); refine box_event ?hg (N := 9) ?hd (cs := #[.int .i64 0, .int .i64 0, .bool false, .slice none 0 0]) (t := 51) ?hr ?_; (case hd => rfl); (case hg => rfl); (case hr => first | (go_simp; done) | (go_simp; rfl)); intro gb167 hg w14 hbox hb; have n0_ := Aside0.mk (Kd.V_below (Kd.V_elderB (by (with_reducible repeat (first | apply Kd.V_alloc | apply Kd.V_drewN | apply Kd.V_drew)); exact HO_10.out) gb167 (Nat.le_of_eq hg.symm)) hb); have n1_ := Aside0.mk (Kd.V_below (Kd.V_elderB (by (with_reducible repeat (first | apply Kd.V_alloc | apply Kd.V_drewN | apply Kd.V_drew)); exact HL166_3.out) gb167 (Nat.le_of_eq hg.symm)) hb); have n2_ := Aside0.mk (blk_below (g := gb165) (o := .cells #[.int .i64 x166000_1, .int .i64 x166001_1, .bool x166002_1, .slice none 0 0] 51 (0, 0)) (by (with_reducible repeat (first | refine blk_drewN ?_ _ | refine blk_drew ?_ | refine blk_alloc ?_ _)); exact BK165.out) hb); have n3_ := Aside0.mk (Kd.C_below (by repeat (first | (with_reducible exact HR166_3.out) | (with_reducible refine Kd.C_alloc ?_ _) | (with_reducible refine Kd.C_drewN ?_ _) | (with_reducible refine Kd.C_drew ?_) | exact HR166_3.out)) hb); have n4_ := Aside0.mk (below_step (by repeat (first | (with_reducible first | exact HB.out | apply below_alloc | apply pw_below_drewN | apply below_drew1 | refine below_set ?_ GE165.out) | exact HB.out)) hb); have n5_ := Aside0.mk (hbox); have n6_ := Aside0.mk ((by rw [hg]; exact (below_size (by repeat (first | (with_reducible first | exact HB.out | apply below_alloc | apply pw_below_drewN | apply below_drew1 | refine below_set ?_ GE165.out) | exact HB.out))) : w.heap.size ≤ gb167)); have n7_ := Aside0.mk ((by rw [hg]; exact (below_size (by repeat (first | (with_reducible first | exact HB.out | apply below_alloc | apply pw_below_drewN | apply below_drew1 | refine below_set ?_ GE165.out) | exact HB.out))) : w.heap.size ≤ gb167)); have n8_ := Aside0.mk ((by rw [hg]; exact Nat.ne_of_lt (blk_lt (g := gb165) (o := .cells #[.int .i64 x166000_1, .int .i64 x166001_1, .bool x166002_1, .slice none 0 0] 51 (0, 0)) (by (with_reducible repeat (first | refine blk_drewN ?_ _ | refine blk_drew ?_ | refine blk_alloc ?_ _)); exact BK165.out)) : gb165 ≠ gb167)); have n9_ := Aside0.mk ((by rw [hg]; exact Nat.ne_of_gt (blk_lt (g := gb165) (o := .cells #[.int .i64 x166000_1, .int .i64 x166001_1, .bool x166002_1, .slice none 0 0] 51 (0, 0)) (by (with_reducible repeat (first | refine blk_drewN ?_ _ | refine blk_drew ?_ | refine blk_alloc ?_ _)); exact BK165.out)) : gb167 ≠ gb165)); clear HO_10; clear HL166_3; clear BK165; clear HR166_3; clear HB; have HO_10 := n0_; have HL166_3 := n1_; have BK165 := n2_; have HR166_3 := n3_; have HB := n4_; have BK167 := n5_; have GW167 := n6_; have GE167 := n7_; have NB165_167 := n8_; have NB167_165 := n9_; clear n0_ n1_ n2_ n3_ n4_ n5_ n6_ n7_ n8_ n9_; clear hb hbox hg; have hnb15 := NB167_165.out; have hnc15 := NB165_167.out; have hcz16_0 : w14.cell? ⟨gb167, 0, none⟩ = some (.int .i64 0) := (blk_cell BK167.out 0).trans rfl; have hcz16_1 : w14.cell? ⟨gb167, 1, none⟩ = some (.int .i64 0) := (blk_cell BK167.out 1).trans rfl; have hcz16_2 : w14.cell? ⟨gb167, 2, none⟩ = some (.bool false) := (blk_cell BK167.out 2).trans rfl; have hcz16_3 : w14.cell? ⟨gb167, 3, none⟩ = some (.slice none 0 0) := (blk_cell BK167.out 3).trans rfl; have hfz16_0 := blk_frozen BK167.out 0; have hfz16_1 := blk_frozen BK167.out 1; have hfz16_2 := blk_frozen BK167.out 2; have hfz16_3 := blk_frozen BK167.out 3))
                go_roundg k1
                case measure => have := HK1.out; omega
                case rel => exact ⟨(wrap64 (x12_1 + 1)), (x166000_1), (x166001_1), (x166002_1), (by first | rfl | (simp; done) | (simp [*]; done) | (simp [isEmpty_bne]; done)), H', ⟨by have := HK1.out; omega⟩, ⟨by (with_reducible repeat (first | apply Kd.V_alloc | apply Kd.V_drewN | apply Kd.V_drew)); exact Kd.V_mono (Kd.V_far (p := ⟨gb167, 3, none⟩) (Kd.V_far (p := ⟨gb167, 2, none⟩) (Kd.V_far (p := ⟨gb167, 1, none⟩) (Kd.V_far (p := ⟨gb167, 0, none⟩) (Kd.V_mono HO_10.out (fun k_ hk => (⟨hk, hk.2⟩ : _ ∧ k_ ≠ gb167))) (fun _ hk => hk.2) (.int .i64 ((rd_T51 l0 x12_1).f0))) (fun _ hk => hk.2) (.int .i64 ((rd_T51 l0 x12_1).f1))) (fun _ hk => hk.2) (.bool ((rd_T51 l0 x12_1).f2))) (fun _ hk => hk.2) (.slice A166_3 ((rd_T51 l0 x12_1).f3).length c166_3)) (fun _ hk => ⟨hk.1.1.1, hk.1.1.2⟩)⟩, ⟨by (with_reducible repeat (first | refine blk_drewN ?_ _ | refine blk_drew ?_ | refine blk_alloc ?_ _)); refine blk_far ?_ NB165_167.out _; (with_reducible repeat (first | refine blk_drewN ?_ _ | refine blk_drew ?_ | refine blk_alloc ?_ _)); refine blk_far ?_ NB165_167.out _; (with_reducible repeat (first | refine blk_drewN ?_ _ | refine blk_drew ?_ | refine blk_alloc ?_ _)); refine blk_far ?_ NB165_167.out _; (with_reducible repeat (first | refine blk_drewN ?_ _ | refine blk_drew ?_ | refine blk_alloc ?_ _)); refine blk_far ?_ NB165_167.out _; (with_reducible repeat (first | refine blk_drewN ?_ _ | refine blk_drew ?_ | refine blk_alloc ?_ _)); exact BK165.out⟩, ⟨by repeat (first | (with_reducible first | exact HB.out | apply below_alloc | apply pw_below_drewN | apply below_drew1 | refine below_set ?_ GE165.out | refine below_set ?_ GE167.out) | exact HB.out)⟩⟩
            · rw [if_neg c8] at H
              have c8b0 : (((rd_T51 l0 x12_1).f0) == a1) = false := beq_eq_false_iff_ne.mpr c8
              have c8b1 : (((rd_T51 l0 x12_1).f0) != a1) = true := bne_iff_ne.mpr c8
              have H' := Aside0.mk H
              clear H
              have p166 : 0 ≤ (x12_1 : Int) := of_decide_eq_true (by first | (with_reducible assumption) | assumption)
              have q166 : x12_1 < (l0.length : Int) := of_decide_eq_true (by first | (with_reducible assumption) | assumption)
              obtain ⟨ad166, A166_3, c166_3, e166, hx166_0, hx166_1, hx166_2, hx166_3, hl166_3, hi166_3⟩ := at_T51 (Kd.V_reads' HO_10.out).2.2 x12_1 p166 q166
              cases e166
              obtain ⟨ce166, hce166, hMe166, hcc166⟩ := Kd.V_get HO_10.out z51 x12_1 p166 (by first | exact q166 | exact of_decide_eq_true (by first | (with_reducible assumption) | assumption) | (have e_ := (Kd.V_reads' HO_10.out).1; omega))
              obtain ⟨ua166_3, uc166_3, rfl, ul166_3, ge166_3⟩ := k51_openF hMe166
              have hv166_3 := hcc166 3 _ rfl
              rw [add_field _ _ 3 (by omega)] at hv166_3
              replace hv166_3 := Option.some.inj (hv166_3.symm.trans hx166_3)
              injection hv166_3 with hva_ hvn_ hvc_
              rw [hva_] at ge166_3
              rw [hvc_] at ul166_3
              have HL166_3 := Aside0.mk (show Kd.V (Kd.int .i64) 3 _ w.heap.size _ _ ((rd_T51 l0 x12_1).f3) from Kd.V_mk ul166_3 ge166_3)
              clear hva_ hvn_ hvc_ ge166_3 ul166_3
              clear hcc166 hce166
              have HR166_3 := Aside0.mk hi166_3
              have HC166_3 := Aside0.mk hl166_3
              clear hi166_3 hl166_3
              replace p166 := eq_true p166
              replace q166 := eq_true q166
              go_wp2_with (first | ((with_reducible refine gate_dst (N := 9) rfl ?_); refine box_event ?hg (N := 9) ?hd (cs := #[.int .i64 0, .int .i64 0, .bool false, .slice none 0 0]) (t := 51) ?hr ?_; (case hd => rfl); (case hg => rfl); (case hr => first | (go_simp; done) | (go_simp; rfl)); intro gb167 hg w17 hbox hb; have n0_ := Aside0.mk (Kd.V_below (Kd.V_elderB (by (with_reducible repeat (first | apply Kd.V_alloc | apply Kd.V_drewN | apply Kd.V_drew)); exact HO_10.out) gb167 (Nat.le_of_eq hg.symm)) hb); have n1_ := Aside0.mk (Kd.V_below (Kd.V_elderB (by (with_reducible repeat (first | apply Kd.V_alloc | apply Kd.V_drewN | apply Kd.V_drew)); exact HL166_3.out) gb167 (Nat.le_of_eq hg.symm)) hb); have n2_ := Aside0.mk (blk_below (g := gb165) (o := .cells #[.int .i64 x166000_1, .int .i64 x166001_1, .bool x166002_1, .slice none 0 0] 51 (0, 0)) (by (with_reducible repeat (first | refine blk_drewN ?_ _ | refine blk_drew ?_ | refine blk_alloc ?_ _)); exact BK165.out) hb); have n3_ := Aside0.mk (Kd.C_below (by repeat (first | (with_reducible exact HR166_3.out) | (with_reducible refine Kd.C_alloc ?_ _) | (with_reducible refine Kd.C_drewN ?_ _) | (with_reducible refine Kd.C_drew ?_) | exact HR166_3.out)) hb); have n4_ := Aside0.mk (below_step (by repeat (first | (with_reducible first | exact HB.out | apply below_alloc | apply pw_below_drewN | apply below_drew1 | refine below_set ?_ GE165.out) | exact HB.out)) hb); have n5_ := Aside0.mk (hbox); have n6_ := Aside0.mk ((by rw [hg]; exact (below_size (by repeat (first | (with_reducible first | exact HB.out | apply below_alloc | apply pw_below_drewN | apply below_drew1 | refine below_set ?_ GE165.out) | exact HB.out))) : w.heap.size ≤ gb167)); have n7_ := Aside0.mk ((by rw [hg]; exact (below_size (by repeat (first | (with_reducible first | exact HB.out | apply below_alloc | apply pw_below_drewN | apply below_drew1 | refine below_set ?_ GE165.out) | exact HB.out))) : w.heap.size ≤ gb167)); have n8_ := Aside0.mk ((by rw [hg]; exact Nat.ne_of_lt (blk_lt (g := gb165) (o := .cells #[.int .i64 x166000_1, .int .i64 x166001_1, .bool x166002_1, .slice none 0 0] 51 (0, 0)) (by (with_reducible repeat (first | refine blk_drewN ?_ _ | refine blk_drew ?_ | refine blk_alloc ?_ _)); exact BK165.out)) : gb165 ≠ gb167)); have n9_ := Aside0.mk ((by rw [hg]; exact Nat.ne_of_gt (blk_lt (g := gb165) (o := .cells #[.int .i64 x166000_1, .int .i64 x166001_1, .bool x166002_1, .slice none 0 0] 51 (0, 0)) (by (with_reducible repeat (first | refine blk_drewN ?_ _ | refine blk_drew ?_ | refine blk_alloc ?_ _)); exact BK165.out)) : gb167 ≠ gb165)); clear HO_10; clear HL166_3; clear BK165; clear HR166_3; clear HB; have HO_10 := n0_; have HL166_3 := n1_; have BK165 := n2_; have HR166_3 := n3_; have HB := n4_; have BK167 := n5_; have GW167 := n6_; have GE167 := n7_; have NB165_167 := n8_; have NB167_165 := n9_; clear n0_ n1_ n2_ n3_ n4_ n5_ n6_ n7_ n8_ n9_; clear hb hbox hg; have hnb18 := NB167_165.out; have hnc18 := NB165_167.out; have hcz19_0 : w17.cell? ⟨gb167, 0, none⟩ = some (.int .i64 0) := (blk_cell BK167.out 0).trans rfl; have hcz19_1 : w17.cell? ⟨gb167, 1, none⟩ = some (.int .i64 0) := (blk_cell BK167.out 1).trans rfl; have hcz19_2 : w17.cell? ⟨gb167, 2, none⟩ = some (.bool false) := (blk_cell BK167.out 2).trans rfl; have hcz19_3 : w17.cell? ⟨gb167, 3, none⟩ = some (.slice none 0 0) := (blk_cell BK167.out 3).trans rfl; have hfz19_0 := blk_frozen BK167.out 0; have hfz19_1 := blk_frozen BK167.out 1; have hfz19_2 := blk_frozen BK167.out 2; have hfz19_3 := blk_frozen BK167.out 3))
              go_roundg k1
              case measure => have := HK1.out; omega
              case rel => exact ⟨(wrap64 (x12_1 + 1)), (x166000_1), (x166001_1), (x166002_1), (by first | rfl | (simp; done) | (simp [*]; done) | (simp [isEmpty_bne]; done)), H', ⟨by have := HK1.out; omega⟩, ⟨by (with_reducible repeat (first | apply Kd.V_alloc | apply Kd.V_drewN | apply Kd.V_drew)); exact Kd.V_mono (Kd.V_far (p := ⟨gb167, 3, none⟩) (Kd.V_far (p := ⟨gb167, 2, none⟩) (Kd.V_far (p := ⟨gb167, 1, none⟩) (Kd.V_far (p := ⟨gb167, 0, none⟩) (Kd.V_mono HO_10.out (fun k_ hk => (⟨hk, hk.2⟩ : _ ∧ k_ ≠ gb167))) (fun _ hk => hk.2) (.int .i64 ((rd_T51 l0 x12_1).f0))) (fun _ hk => hk.2) (.int .i64 ((rd_T51 l0 x12_1).f1))) (fun _ hk => hk.2) (.bool ((rd_T51 l0 x12_1).f2))) (fun _ hk => hk.2) (.slice A166_3 ((rd_T51 l0 x12_1).f3).length c166_3)) (fun _ hk => ⟨hk.1.1.1, hk.1.1.2⟩)⟩, ⟨by (with_reducible repeat (first | refine blk_drewN ?_ _ | refine blk_drew ?_ | refine blk_alloc ?_ _)); refine blk_far ?_ NB165_167.out _; (with_reducible repeat (first | refine blk_drewN ?_ _ | refine blk_drew ?_ | refine blk_alloc ?_ _)); refine blk_far ?_ NB165_167.out _; (with_reducible repeat (first | refine blk_drewN ?_ _ | refine blk_drew ?_ | refine blk_alloc ?_ _)); refine blk_far ?_ NB165_167.out _; (with_reducible repeat (first | refine blk_drewN ?_ _ | refine blk_drew ?_ | refine blk_alloc ?_ _)); refine blk_far ?_ NB165_167.out _; (with_reducible repeat (first | refine blk_drewN ?_ _ | refine blk_drew ?_ | refine blk_alloc ?_ _)); exact BK165.out⟩, ⟨by repeat (first | (with_reducible first | exact HB.out | apply below_alloc | apply pw_below_drewN | apply below_drew1 | refine below_set ?_ GE165.out | refine below_set ?_ GE167.out) | exact HB.out)⟩⟩
          · rw [if_neg c7] at H
            exact absurd H (by simp)
        · rw [if_neg c6] at H
          exact absurd H (by simp)
      · rw [if_neg c5] at H
        have c5b0 : decide (x12_1 < (l0.length : Int)) = false := decide_eq_false c5
        clear c5
        simp only [Option.some.injEq, Prod.mk.injEq] at H
        obtain ⟨rfl, rfl, rfl, rfl, rfl⟩ := H
        have hcz20_0 : wr.cell? ⟨gb165, 0, none⟩ = some (.int .i64 x166000_1) := (blk_cell BK165.out 0).trans rfl
        have hcz20_1 : wr.cell? ⟨gb165, 1, none⟩ = some (.int .i64 x166001_1) := (blk_cell BK165.out 1).trans rfl
        have hcz20_2 : wr.cell? ⟨gb165, 2, none⟩ = some (.bool x166002_1) := (blk_cell BK165.out 2).trans rfl
        have hcz20_3 : wr.cell? ⟨gb165, 3, none⟩ = some (.slice none 0 0) := (blk_cell BK165.out 3).trans rfl
        have hfz20_0 := blk_frozen BK165.out 0
        have hfz20_1 := blk_frozen BK165.out 1
        have hfz20_2 := blk_frozen BK165.out 2
        have hfz20_3 := blk_frozen BK165.out 3
        go_wp2
        refine bodyPost_ret (results_ct rfl _ _ gb165 51 #[.int .i64 0, .int .i64 0, .bool false, .slice none 0 0] (0, 0) _ rfl (by (with_reducible repeat (first | refine blk_drewN ?_ _ | refine blk_drew ?_ | refine blk_alloc ?_ _)); refine blk_put (cs := #[.int .i64 0, .int .i64 0, .bool false, .slice none 0 0]) ?_ 3 _ rfl; (with_reducible repeat (first | refine blk_drewN ?_ _ | refine blk_drew ?_ | refine blk_alloc ?_ _)); refine blk_put (cs := #[.int .i64 0, .int .i64 0, .bool x166002_1, .slice none 0 0]) ?_ 2 _ rfl; (with_reducible repeat (first | refine blk_drewN ?_ _ | refine blk_drew ?_ | refine blk_alloc ?_ _)); refine blk_put (cs := #[.int .i64 0, .int .i64 x166001_1, .bool x166002_1, .slice none 0 0]) ?_ 1 _ rfl; (with_reducible repeat (first | refine blk_drewN ?_ _ | refine blk_drew ?_ | refine blk_alloc ?_ _)); refine blk_put (cs := #[.int .i64 x166000_1, .int .i64 x166001_1, .bool x166002_1, .slice none 0 0]) ?_ 0 _ rfl; (with_reducible repeat (first | refine blk_drewN ?_ _ | refine blk_drew ?_ | refine blk_alloc ?_ _)); exact BK165.out) Try.underlying51 rfl (by kernel_rfl)) rfl ?_
        exact ⟨_, by first | rfl | (simp [errW_none, errW_some] <;> rfl) | (simp [*, errW_none, errW_some] <;> rfl), (by first | exact Kd.V_nil _ _ _ _ _ | exact Kd.V_mono (Kd.R_V (by first | exact Kd.R_nil _ _ _ _ _ | exact Kd.N_nil _ _ _ _ _ | exact Kd.V_nil _ _ _ _ _ | exact Kd.Q_nil _ _ _ _ _ | exact Kd.S_nil _ _ _ _ _)) (fun k_ hk => by first | exact ⟨(.inr (hk.1)), hk.2⟩ | exact (.inr (hk)))), by repeat (first | (with_reducible first | exact HB.out | apply below_alloc | apply pw_below_drewN | apply below_drew1 | refine below_set ?_ GE165.out) | exact HB.out)⟩

/-! ### glossatorref3_Assemble: function 22 -/
def glossatorref3_Assemble.l0 : Nat → List (S51) → Int → List Int → Int → Option (List Int × Bool)
  | 0, _, _, _, _ => none
  | k + 1, x0, x1, x6, x7 => (glossatorref3_chunk.f k x0 x1 x7).bind fun bt168 => (if bt168.2.2.2.2 = true then (if x6.length + bt168.2.2.2.1.length < 17592186044416 then ((some (x6 ++ bt168.2.2.2.1 : List Int)).bind fun y176 => (if bt168.2.2.1 = true then (some (y176, true)) else (glossatorref3_Assemble.l0 k x0 x1 y176 (wrap64 (x7 + 1))))) else (none)) else (some (([] : List Int), false)))
def glossatorref3_Assemble.f (k : Nat) (l0 : List (S51)) (a1 : Int) : Option (List Int × Bool) := glossatorref3_Assemble.l0 k l0 a1 ([] : List Int) 0
theorem glossatorref3_Assemble.mono_l : ∀ k, (∀ y0 y1 y2 y3, LeO (glossatorref3_Assemble.l0 k y0 y1 y2 y3) (glossatorref3_Assemble.l0 (k + 1) y0 y1 y2 y3))
  | 0 => fun _ _ _ _ r h => by simp [glossatorref3_Assemble.l0] at h
  | k + 1 => by
    have ih0 := glossatorref3_Assemble.mono_l k
    · intro y0 y1 y2 y3
      unfold glossatorref3_Assemble.l0
      repeat' first
      | (with_reducible exact ih0 _ _ _ _)
      | (with_reducible exact glossatorref3_chunk.mono _ _ _ _)
      | (with_reducible exact LeO.refl _)
      | (with_reducible exact LeO.none _)
      | (with_reducible refine LeO.ite ?_ ?_)
      | (with_reducible refine LeO.bind ?_ (fun _ => ?_))
      | exact ih0 _ _ _ _
      | exact glossatorref3_chunk.mono _ _ _ _
      | exact LeO.none _
      | refine LeO.ite ?_ ?_
      | refine LeO.bind ?_ (fun _ => ?_)
theorem glossatorref3_Assemble.mono : ∀ a0 a1 k, LeO (glossatorref3_Assemble.f k a0 a1) (glossatorref3_Assemble.f (k + 1) a0 a1) := by
  intro a0 a1 k
  have ih0 := glossatorref3_Assemble.mono_l k
  unfold glossatorref3_Assemble.f
  repeat' first
      | (with_reducible exact ih0 _ _ _ _)
      | (with_reducible exact glossatorref3_chunk.mono _ _ _ _)
      | (with_reducible exact LeO.refl _)
      | (with_reducible exact LeO.none _)
      | (with_reducible refine LeO.ite ?_ ?_)
      | (with_reducible refine LeO.bind ?_ (fun _ => ?_))
      | exact ih0 _ _ _ _
      | exact glossatorref3_chunk.mono _ _ _ _
      | exact LeO.none _
      | refine LeO.ite ?_ ?_
      | refine LeO.bind ?_ (fun _ => ?_)
set_option maxHeartbeats 8000000 in
set_option maxRecDepth 100000 in
theorem glossatorref3_Assemble.calls (k : Nat) (A0 : Option Addr) (c0 : Nat) (l0 : List (S51)) (a1 : Int) (r1 : List Int) (r2 : Bool) (w : World) (hr0 : Kd.C k51 w A0 l0.length l0) (hc0 : l0.length ≤ c0) (h : glossatorref3_Assemble.f k l0 a1 = some (r1, r2)) :
    Calls Try.prog 22 #[.slice A0 l0.length c0, .int .i64 a1] w fun e w' => ∃ v0_ : Value, e = .returned (.tuple #[v0_, .bool r2]) ∧ Kd.R (Kd.int .i64) 3 w' w.heap.size (fun _ => True) v0_ r1 ∧ Below w.heap.size w w' := by
  have hu51 := Try.underlying51
  have HR0 := Aside0.mk hr0
  have HC0 := Aside0.mk hc0
  clear hr0 hc0
  have HB := Aside0.mk (Below.refl w.heap.size w)
  have H : (glossatorref3_Assemble.l0 k l0 a1 ([] : List Int) 0) = some (r1, r2) := h
  clear h
  have H' := Aside0.mk H
  clear H
  go_enter Try.func22, Try.ntmps22
  go_wp2
  go_loopg [6, 7] k (fun kq v6 v7 w' => ∃ (x6_1 : List Int) (x7_1 : Int), v7 = .int .i64 x7_1 ∧ Aside0 (glossatorref3_Assemble.l0 kq l0 a1 x6_1 x7_1 = some (r1, r2)) ∧ Aside0 (kq ≤ k) ∧ Aside0 (Kd.R (Kd.int .i64) 3 w' w.heap.size (fun _ => True) v6 x6_1) ∧ Aside0 (Below w.heap.size w w'))
  case atStart => exact ⟨(([] : List Int)), (0), (by first | rfl | (simp; done) | (simp [*]; done) | (simp [isEmpty_bne]; done)), H', ⟨Nat.le_refl _⟩, ⟨by first | exact Kd.R_nil _ _ _ _ _ | exact Kd.N_nil _ _ _ _ _ | exact Kd.V_nil _ _ _ _ _ | exact Kd.Q_nil _ _ _ _ _ | exact Kd.S_nil _ _ _ _ _⟩, ⟨by repeat (first | (with_reducible first | exact HB.out | apply below_alloc | apply pw_below_drewN | apply below_drew1) | exact HB.out)⟩⟩
  case round =>
    clear H'
    try clear c2
    try clear p2
    obtain ⟨x6_1, x7_1, rfl, HA, HK1, HO_6, HB⟩ := hrel
    cases gk with
    | zero => exact absurd HA.out (by simp [glossatorref3_Assemble.l0])
    | succ k1 =>
      have H := HA.out
      clear HA
      simp only [glossatorref3_Assemble.l0] at H
      replace H := Option.bind_eq_some_iff.mp H
      obtain ⟨⟨t168, t169, t170, t171, t174⟩, A30, H⟩ := H
      replace H : (if t174 = true then (if x6_1.length + t171.length < 17592186044416 then ((some (x6_1 ++ t171 : List Int)).bind fun y176 => (if t170 = true then (some (y176, true)) else (glossatorref3_Assemble.l0 k1 l0 a1 y176 (wrap64 (x7_1 + 1))))) else (none)) else (some (([] : List Int), false))) = some (r1, r2) := H
      have A3 := Aside0.mk A30
      clear A30
      by_cases c4 : t174 = true
      · subst c4
        have H1 : (if x6_1.length + t171.length < 17592186044416 then ((some (x6_1 ++ t171 : List Int)).bind fun y176 => (if t170 = true then (some (y176, true)) else (glossatorref3_Assemble.l0 k1 l0 a1 y176 (wrap64 (x7_1 + 1))))) else (none)) = some (r1, r2) := by rw [if_pos rfl] at H; exact H
        clear H
        have H := H1
        clear H1
        by_cases c5 : x6_1.length + t171.length < 17592186044416
        · rw [if_pos c5] at H
          have LMc5 := Aside0.mk c5
          clear c5
          obtain ⟨y176, hy176⟩ : ∃ y_ : List Int, y_ = (x6_1 ++ t171) := ⟨_, rfl⟩
          replace H : (if t170 = true then (some (y176, true)) else (glossatorref3_Assemble.l0 k1 l0 a1 y176 (wrap64 (x7_1 + 1)))) = some (r1, r2) := by first | (rw [hy176]; with_reducible exact H) | (have H2_ := (Option.bind_some _ _).symm.trans H; rw [hy176]; with_reducible exact H2_) | (have H2_ := (Option.bind_some _ _).symm.trans H; with_reducible exact H2_) | with_reducible exact H | (rw [hy176]; exact H) | exact H
          have Ny176 := Aside0.mk hy176
          clear hy176
          by_cases c6 : t170 = true
          · subst c6
            have H1 : (some (y176, true)) = some (r1, r2) := by rw [if_pos rfl] at H; exact H
            clear H
            have H := H1
            clear H1
            simp only [Option.some.injEq, Prod.mk.injEq] at H
            obtain ⟨rfl, rfl⟩ := H
            go_wp2_with (first | ((with_reducible refine gate_callee (f := 50) rfl ?_); refine goesL_ (some 16) rfl rfl Try.func50 (by kernel_rfl) rfl #[.slice A0 l0.length c0, .int .i64 a1, .int .i64 x7_1] rfl (by (try simp only [List.map_toArray, List.map_cons, List.map_nil]); first | done | rfl | (simp only [List.length_drop, List.length_take]; rfl)) ?_; (with_reducible refine (glossatorref3_chunk.calls k1 (fun k_ => k_ < w.heap.size) _ _ l0 a1 x7_1 t168 t169 true t171 true _ ?side1 A3.out).mono ?_); (case side1 => exact Kd.V_mk HC0.out (Kd.F_below (Kd.C_F k51_heap HR0.out) (by repeat (first | (with_reducible first | exact HB.out | apply below_alloc | apply pw_below_drewN | apply below_drew1) | exact HB.out)))); rintro e w7 ⟨v172, rfl, ho0, hb⟩; refine ⟨_, rfl, ?_⟩; have n0_ := Aside0.mk (Kd.R_below (by (with_reducible repeat (first | apply Kd.R_alloc | apply Kd.R_drewN | apply Kd.R_drew)); exact HO_6.out) hb); have n1_ := Aside0.mk (Kd.V_lower (Kd.V_mono (ok' := fun k_ => some k_ ≠ (u6 : Value).ownBlock) ho0 (fun k_ hk_ => Or.elim hk_ (fun hs_ => fun e_ => Nat.not_le.2 hs_ (Kd.R_base HO_6.out k_ e_.symm)) (fun hn_ => (Kd.fresh' (Kd.R_lt (by (with_reducible repeat (first | apply Kd.R_alloc | apply Kd.R_drewN | apply Kd.R_drew)); exact HO_6.out)) k_ hn_)))) (below_size (by repeat (first | (with_reducible first | exact HB.out | apply below_alloc | apply pw_below_drewN | apply below_drew1) | exact HB.out)))); have n2_ := Aside0.mk (below_step (by repeat (first | (with_reducible first | exact HB.out | apply below_alloc | apply pw_below_drewN | apply below_drew1) | exact HB.out)) hb); clear HO_6; clear HB; have HO_6 := n0_; have HO173 := n1_; have HB := n2_; clear n0_ n1_ n2_; (try clear hb); (try clear hb2); (try clear hk); (try clear hi); (try clear ho0)) | ((with_reducible refine gate_dst (N := 8) rfl ?_); refine box_event ?hg (N := 8) ?hd (cs := #[.int .i64 0, .int .i64 0, .bool false, .slice none 0 0]) (t := 51) ?hr ?_; (case hd => rfl); (case hg => rfl); (case hr => first | (go_simp; done) | (go_simp; rfl)); intro gb175 hg w8 hbox hb; have n0_ := Aside0.mk (Kd.R_below (by (with_reducible repeat (first | apply Kd.R_alloc | apply Kd.R_drewN | apply Kd.R_drew)); exact HO_6.out) hb); have n1_ := Aside0.mk (Kd.V_below (Kd.V_elderB (by (with_reducible repeat (first | apply Kd.V_alloc | apply Kd.V_drewN | apply Kd.V_drew)); exact HO173.out) gb175 (Nat.le_of_eq hg.symm)) hb); have n2_ := Aside0.mk (below_step (by repeat (first | (with_reducible first | exact HB.out | apply below_alloc | apply pw_below_drewN | apply below_drew1) | exact HB.out)) hb); have n3_ := Aside0.mk (hbox); have n4_ := Aside0.mk ((by rw [hg]; exact (below_size (by repeat (first | (with_reducible first | exact HB.out | apply below_alloc | apply pw_below_drewN | apply below_drew1) | exact HB.out))) : w.heap.size ≤ gb175)); have n5_ := Aside0.mk ((by rw [hg]; exact (below_size (by repeat (first | (with_reducible first | exact HB.out | apply below_alloc | apply pw_below_drewN | apply below_drew1) | exact HB.out))) : w.heap.size ≤ gb175)); clear HO_6; clear HO173; clear HB; have HO_6 := n0_; have HO173 := n1_; have HB := n2_; have BK175 := n3_; have GW175 := n4_; have GE175 := n5_; clear n0_ n1_ n2_ n3_ n4_ n5_; clear hb hbox hg; have hcz9_0 : w8.cell? ⟨gb175, 0, none⟩ = some (.int .i64 0) := (blk_cell BK175.out 0).trans rfl; have hcz9_1 : w8.cell? ⟨gb175, 1, none⟩ = some (.int .i64 0) := (blk_cell BK175.out 1).trans rfl; have hcz9_2 : w8.cell? ⟨gb175, 2, none⟩ = some (.bool false) := (blk_cell BK175.out 2).trans rfl; have hcz9_3 : w8.cell? ⟨gb175, 3, none⟩ = some (.slice none 0 0) := (blk_cell BK175.out 3).trans rfl; have hfz9_0 := blk_frozen BK175.out 0; have hfz9_1 := blk_frozen BK175.out 1; have hfz9_2 := blk_frozen BK175.out 2; have hfz9_3 := blk_frozen BK175.out 3; obtain ⟨Ao10, co10, eo10⟩ := Kd.V_slice HO173.out; subst eo10) | ((with_reducible refine gate_builtin (b := .append) (xs := #[.tmp 21, .tmp 23]) rfl ?_); at_builtin; refine Kd.R_append_rows (Kd.int .i64) (w0 := w) w.heap.size rfl (.tmp 21) (.tmp 23) 24 3 (.int .i64 0) 8 rfl Try.underlying24 info3 rfl (by decide) (by omega) u6 x6_1 t171 _ _ _ (fun _ => True) (fun _ => False) rfl rfl ?aO ?aR (fun _ _ h => h) (fun _ h => h.elim) ?aF ?aB ?aS ?aL ?_; (case aR => refine (Kd.V_reads' (e := 3) (base := w.heap.size) (ok := fun k_ => (some k_ ≠ (u6 : Value).ownBlock ∧ k_ ≠ gb175)) (n := t171.length) (c := co10) ?_).2.2; exact (by (with_reducible repeat (first | apply Kd.V_alloc | apply Kd.V_drewN | apply Kd.V_drew)); exact (Kd.V_mono (Kd.V_far (p := ⟨gb175, 3, none⟩) (Kd.V_far (p := ⟨gb175, 2, none⟩) (Kd.V_far (p := ⟨gb175, 1, none⟩) (Kd.V_far (p := ⟨gb175, 0, none⟩) (Kd.V_mono HO173.out (fun k_ hk => (⟨hk, hk.2⟩ : _ ∧ k_ ≠ gb175))) (fun _ hk => hk.2) (.int .i64 t168)) (fun _ hk => hk.2) (.int .i64 t169)) (fun _ hk => hk.2) (.bool true)) (fun _ hk => hk.2) (.slice Ao10 t171.length co10)) (fun _ h_ => h_.1)))); (case aB => exact (by repeat (first | (with_reducible first | exact HB.out | apply below_alloc | apply pw_below_drewN | apply below_drew1 | refine below_set ?_ GE175.out) | exact HB.out))); (case aF => exact (fun _ _ => trivial)); (case aO => exact (by (with_reducible repeat (first | apply Kd.R_alloc | apply Kd.R_drewN | apply Kd.R_drew)); exact Kd.R_mono (Kd.R_far (p := ⟨gb175, 3, none⟩) (Kd.R_far (p := ⟨gb175, 2, none⟩) (Kd.R_far (p := ⟨gb175, 1, none⟩) (Kd.R_far (p := ⟨gb175, 0, none⟩) (Kd.R_types HO_6.out BK175.out (by decide)) (fun _ hk => hk.2) (.int .i64 t168)) (fun _ hk => hk.2) (.int .i64 t169)) (fun _ hk => hk.2) (.bool true)) (fun _ hk => hk.2) (.slice Ao10 t171.length co10)) (fun _ hk => trivial))); (case aS => exact (below_size (by repeat (first | (with_reducible first | exact HB.out | apply below_alloc | apply pw_below_drewN | apply below_drew1 | refine below_set ?_ GE175.out) | exact HB.out)))); (case aL => have := LMc5.out; omega); intro v177 w11 ho hb hg hat; rw [← Ny176.out] at ho; have n0_ := Aside0.mk (Kd.V_afterv (ok := (fun k_ => k_ ≠ gb175)) (by (with_reducible repeat (first | apply Kd.V_alloc | apply Kd.V_drewN | apply Kd.V_drew)); exact Kd.V_mono (Kd.V_far (p := ⟨gb175, 3, none⟩) (Kd.V_far (p := ⟨gb175, 2, none⟩) (Kd.V_far (p := ⟨gb175, 1, none⟩) (Kd.V_far (p := ⟨gb175, 0, none⟩) (Kd.V_mono HO173.out (fun k_ hk => (⟨hk, hk.2⟩ : _ ∧ k_ ≠ gb175))) (fun _ hk => hk.2) (.int .i64 t168)) (fun _ hk => hk.2) (.int .i64 t169)) (fun _ hk => hk.2) (.bool true)) (fun _ hk => hk.2) (.slice Ao10 t171.length co10)) (fun _ hk => ⟨hk.1.2, hk.1.1⟩)) hg hat); have n1_ := Aside0.mk (blk_grown (g := gb175) (o := .cells #[.int .i64 t168, .int .i64 t169, .bool true, .slice Ao10 t171.length co10] 51 (0, 0)) (by (with_reducible repeat (first | refine blk_drewN ?_ _ | refine blk_drew ?_ | refine blk_alloc ?_ _)); refine blk_put (cs := #[.int .i64 t168, .int .i64 t169, .bool true, .slice none 0 0]) ?_ 3 _ rfl; (with_reducible repeat (first | refine blk_drewN ?_ _ | refine blk_drew ?_ | refine blk_alloc ?_ _)); refine blk_put (cs := #[.int .i64 t168, .int .i64 t169, .bool false, .slice none 0 0]) ?_ 2 _ rfl; (with_reducible repeat (first | refine blk_drewN ?_ _ | refine blk_drew ?_ | refine blk_alloc ?_ _)); refine blk_put (cs := #[.int .i64 t168, .int .i64 0, .bool false, .slice none 0 0]) ?_ 1 _ rfl; (with_reducible repeat (first | refine blk_drewN ?_ _ | refine blk_drew ?_ | refine blk_alloc ?_ _)); refine blk_put (cs := #[.int .i64 0, .int .i64 0, .bool false, .slice none 0 0]) ?_ 0 _ rfl; (with_reducible repeat (first | refine blk_drewN ?_ _ | refine blk_drew ?_ | refine blk_alloc ?_ _)); exact BK175.out) hg (Kd.R_ne HO_6.out BK175.out (by decide))); have n2_ := Aside0.mk (hb); have n3_ := Aside0.mk (ho); clear HO173; clear BK175; clear HB; clear HO_6; have HO173 := n0_; have BK175 := n1_; have HB := n2_; have HO178 := n3_; clear n0_ n1_ n2_ n3_; clear ho hb hg hat; have hcz12_0 : w11.cell? ⟨gb175, 0, none⟩ = some (.int .i64 t168) := (blk_cell BK175.out 0).trans rfl; have hcz12_1 : w11.cell? ⟨gb175, 1, none⟩ = some (.int .i64 t169) := (blk_cell BK175.out 1).trans rfl; have hcz12_2 : w11.cell? ⟨gb175, 2, none⟩ = some (.bool true) := (blk_cell BK175.out 2).trans rfl; have hcz12_3 : w11.cell? ⟨gb175, 3, none⟩ = some (.slice Ao10 t171.length co10) := (blk_cell BK175.out 3).trans rfl; have hfz12_0 := blk_frozen BK175.out 0; have hfz12_1 := blk_frozen BK175.out 1; have hfz12_2 := blk_frozen BK175.out 2; have hfz12_3 := blk_frozen BK175.out 3))
            go_ret2
            exact ⟨_, by first | rfl | (simp [errW_none, errW_some] <;> rfl) | (simp [*, errW_none, errW_some] <;> rfl), by (with_reducible repeat (first | apply Kd.R_alloc | apply Kd.R_drewN | apply Kd.R_drew)); exact HO178.out, by repeat (first | (with_reducible first | exact HB.out | apply below_alloc | apply pw_below_drewN | apply below_drew1 | refine below_set ?_ GE175.out) | exact HB.out)⟩
          · replace c6 := Bool.eq_false_iff.mpr c6
            subst c6
            have H1 : (glossatorref3_Assemble.l0 k1 l0 a1 y176 (wrap64 (x7_1 + 1))) = some (r1, r2) := by rw [if_neg (show ¬ (false = true) by decide)] at H; exact H
            clear H
            have H := H1
            clear H1
            have H' := Aside0.mk H
            clear H
            go_wp2_with (first | ((with_reducible refine gate_callee (f := 50) rfl ?_); refine goesL_ (some 16) rfl rfl Try.func50 (by kernel_rfl) rfl #[.slice A0 l0.length c0, .int .i64 a1, .int .i64 x7_1] rfl (by (try simp only [List.map_toArray, List.map_cons, List.map_nil]); first | done | rfl | (simp only [List.length_drop, List.length_take]; rfl)) ?_; (with_reducible refine (glossatorref3_chunk.calls k1 (fun k_ => k_ < w.heap.size) _ _ l0 a1 x7_1 t168 t169 false t171 true _ ?side1 A3.out).mono ?_); (case side1 => exact Kd.V_mk HC0.out (Kd.F_below (Kd.C_F k51_heap HR0.out) (by repeat (first | (with_reducible first | exact HB.out | apply below_alloc | apply pw_below_drewN | apply below_drew1) | exact HB.out)))); rintro e w13 ⟨v172, rfl, ho0, hb⟩; refine ⟨_, rfl, ?_⟩; have n0_ := Aside0.mk (Kd.R_below (by (with_reducible repeat (first | apply Kd.R_alloc | apply Kd.R_drewN | apply Kd.R_drew)); exact HO_6.out) hb); have n1_ := Aside0.mk (Kd.V_lower (Kd.V_mono (ok' := fun k_ => some k_ ≠ (u6 : Value).ownBlock) ho0 (fun k_ hk_ => Or.elim hk_ (fun hs_ => fun e_ => Nat.not_le.2 hs_ (Kd.R_base HO_6.out k_ e_.symm)) (fun hn_ => (Kd.fresh' (Kd.R_lt (by (with_reducible repeat (first | apply Kd.R_alloc | apply Kd.R_drewN | apply Kd.R_drew)); exact HO_6.out)) k_ hn_)))) (below_size (by repeat (first | (with_reducible first | exact HB.out | apply below_alloc | apply pw_below_drewN | apply below_drew1) | exact HB.out)))); have n2_ := Aside0.mk (below_step (by repeat (first | (with_reducible first | exact HB.out | apply below_alloc | apply pw_below_drewN | apply below_drew1) | exact HB.out)) hb); clear HO_6; clear HB; have HO_6 := n0_; have HO173 := n1_; have HB := n2_; clear n0_ n1_ n2_; (try clear hb); (try clear hb2); (try clear hk); (try clear hi); (try clear ho0)) | ((with_reducible refine gate_dst (N := 8) rfl ?_); refine box_event ?hg (N := 8) ?hd (cs := #[.int .i64 0, .int .i64 0, .bool false, .slice none 0 0]) (t := 51) ?hr ?_; (case hd => rfl); (case hg => rfl); (case hr => first | (go_simp; done) | (go_simp; rfl)); intro gb175 hg w14 hbox hb; have n0_ := Aside0.mk (Kd.R_below (by (with_reducible repeat (first | apply Kd.R_alloc | apply Kd.R_drewN | apply Kd.R_drew)); exact HO_6.out) hb); have n1_ := Aside0.mk (Kd.V_below (Kd.V_elderB (by (with_reducible repeat (first | apply Kd.V_alloc | apply Kd.V_drewN | apply Kd.V_drew)); exact HO173.out) gb175 (Nat.le_of_eq hg.symm)) hb); have n2_ := Aside0.mk (below_step (by repeat (first | (with_reducible first | exact HB.out | apply below_alloc | apply pw_below_drewN | apply below_drew1) | exact HB.out)) hb); have n3_ := Aside0.mk (hbox); have n4_ := Aside0.mk ((by rw [hg]; exact (below_size (by repeat (first | (with_reducible first | exact HB.out | apply below_alloc | apply pw_below_drewN | apply below_drew1) | exact HB.out))) : w.heap.size ≤ gb175)); have n5_ := Aside0.mk ((by rw [hg]; exact (below_size (by repeat (first | (with_reducible first | exact HB.out | apply below_alloc | apply pw_below_drewN | apply below_drew1) | exact HB.out))) : w.heap.size ≤ gb175)); clear HO_6; clear HO173; clear HB; have HO_6 := n0_; have HO173 := n1_; have HB := n2_; have BK175 := n3_; have GW175 := n4_; have GE175 := n5_; clear n0_ n1_ n2_ n3_ n4_ n5_; clear hb hbox hg; have hcz15_0 : w14.cell? ⟨gb175, 0, none⟩ = some (.int .i64 0) := (blk_cell BK175.out 0).trans rfl; have hcz15_1 : w14.cell? ⟨gb175, 1, none⟩ = some (.int .i64 0) := (blk_cell BK175.out 1).trans rfl; have hcz15_2 : w14.cell? ⟨gb175, 2, none⟩ = some (.bool false) := (blk_cell BK175.out 2).trans rfl; have hcz15_3 : w14.cell? ⟨gb175, 3, none⟩ = some (.slice none 0 0) := (blk_cell BK175.out 3).trans rfl; have hfz15_0 := blk_frozen BK175.out 0; have hfz15_1 := blk_frozen BK175.out 1; have hfz15_2 := blk_frozen BK175.out 2; have hfz15_3 := blk_frozen BK175.out 3; obtain ⟨Ao16, co16, eo16⟩ := Kd.V_slice HO173.out; subst eo16) | ((with_reducible refine gate_builtin (b := .append) (xs := #[.tmp 21, .tmp 23]) rfl ?_); at_builtin; refine Kd.R_append_rows (Kd.int .i64) (w0 := w) w.heap.size rfl (.tmp 21) (.tmp 23) 24 3 (.int .i64 0) 8 rfl Try.underlying24 info3 rfl (by decide) (by omega) u6 x6_1 t171 _ _ _ (fun _ => True) (fun _ => False) rfl rfl ?aO ?aR (fun _ _ h => h) (fun _ h => h.elim) ?aF ?aB ?aS ?aL ?_; (case aR => refine (Kd.V_reads' (e := 3) (base := w.heap.size) (ok := fun k_ => (some k_ ≠ (u6 : Value).ownBlock ∧ k_ ≠ gb175)) (n := t171.length) (c := co16) ?_).2.2; exact (by (with_reducible repeat (first | apply Kd.V_alloc | apply Kd.V_drewN | apply Kd.V_drew)); exact (Kd.V_mono (Kd.V_far (p := ⟨gb175, 3, none⟩) (Kd.V_far (p := ⟨gb175, 2, none⟩) (Kd.V_far (p := ⟨gb175, 1, none⟩) (Kd.V_far (p := ⟨gb175, 0, none⟩) (Kd.V_mono HO173.out (fun k_ hk => (⟨hk, hk.2⟩ : _ ∧ k_ ≠ gb175))) (fun _ hk => hk.2) (.int .i64 t168)) (fun _ hk => hk.2) (.int .i64 t169)) (fun _ hk => hk.2) (.bool false)) (fun _ hk => hk.2) (.slice Ao16 t171.length co16)) (fun _ h_ => h_.1)))); (case aB => exact (by repeat (first | (with_reducible first | exact HB.out | apply below_alloc | apply pw_below_drewN | apply below_drew1 | refine below_set ?_ GE175.out) | exact HB.out))); (case aF => exact (fun _ _ => trivial)); (case aO => exact (by (with_reducible repeat (first | apply Kd.R_alloc | apply Kd.R_drewN | apply Kd.R_drew)); exact Kd.R_mono (Kd.R_far (p := ⟨gb175, 3, none⟩) (Kd.R_far (p := ⟨gb175, 2, none⟩) (Kd.R_far (p := ⟨gb175, 1, none⟩) (Kd.R_far (p := ⟨gb175, 0, none⟩) (Kd.R_types HO_6.out BK175.out (by decide)) (fun _ hk => hk.2) (.int .i64 t168)) (fun _ hk => hk.2) (.int .i64 t169)) (fun _ hk => hk.2) (.bool false)) (fun _ hk => hk.2) (.slice Ao16 t171.length co16)) (fun _ hk => trivial))); (case aS => exact (below_size (by repeat (first | (with_reducible first | exact HB.out | apply below_alloc | apply pw_below_drewN | apply below_drew1 | refine below_set ?_ GE175.out) | exact HB.out)))); (case aL => have := LMc5.out; omega); intro v177 w17 ho hb hg hat; rw [← Ny176.out] at ho; have n0_ := Aside0.mk (Kd.V_afterv (ok := (fun k_ => k_ ≠ gb175)) (by (with_reducible repeat (first | apply Kd.V_alloc | apply Kd.V_drewN | apply Kd.V_drew)); exact Kd.V_mono (Kd.V_far (p := ⟨gb175, 3, none⟩) (Kd.V_far (p := ⟨gb175, 2, none⟩) (Kd.V_far (p := ⟨gb175, 1, none⟩) (Kd.V_far (p := ⟨gb175, 0, none⟩) (Kd.V_mono HO173.out (fun k_ hk => (⟨hk, hk.2⟩ : _ ∧ k_ ≠ gb175))) (fun _ hk => hk.2) (.int .i64 t168)) (fun _ hk => hk.2) (.int .i64 t169)) (fun _ hk => hk.2) (.bool false)) (fun _ hk => hk.2) (.slice Ao16 t171.length co16)) (fun _ hk => ⟨hk.1.2, hk.1.1⟩)) hg hat); have n1_ := Aside0.mk (blk_grown (g := gb175) (o := .cells #[.int .i64 t168, .int .i64 t169, .bool false, .slice Ao16 t171.length co16] 51 (0, 0)) (by (with_reducible repeat (first | refine blk_drewN ?_ _ | refine blk_drew ?_ | refine blk_alloc ?_ _)); refine blk_put (cs := #[.int .i64 t168, .int .i64 t169, .bool false, .slice none 0 0]) ?_ 3 _ rfl; (with_reducible repeat (first | refine blk_drewN ?_ _ | refine blk_drew ?_ | refine blk_alloc ?_ _)); refine blk_put (cs := #[.int .i64 t168, .int .i64 t169, .bool false, .slice none 0 0]) ?_ 2 _ rfl; (with_reducible repeat (first | refine blk_drewN ?_ _ | refine blk_drew ?_ | refine blk_alloc ?_ _)); refine blk_put (cs := #[.int .i64 t168, .int .i64 0, .bool false, .slice none 0 0]) ?_ 1 _ rfl; (with_reducible repeat (first | refine blk_drewN ?_ _ | refine blk_drew ?_ | refine blk_alloc ?_ _)); refine blk_put (cs := #[.int .i64 0, .int .i64 0, .bool false, .slice none 0 0]) ?_ 0 _ rfl; (with_reducible repeat (first | refine blk_drewN ?_ _ | refine blk_drew ?_ | refine blk_alloc ?_ _)); exact BK175.out) hg (Kd.R_ne HO_6.out BK175.out (by decide))); have n2_ := Aside0.mk (hb); have n3_ := Aside0.mk (ho); clear HO173; clear BK175; clear HB; clear HO_6; have HO173 := n0_; have BK175 := n1_; have HB := n2_; have HO178 := n3_; clear n0_ n1_ n2_ n3_; clear ho hb hg hat; have hcz18_0 : w17.cell? ⟨gb175, 0, none⟩ = some (.int .i64 t168) := (blk_cell BK175.out 0).trans rfl; have hcz18_1 : w17.cell? ⟨gb175, 1, none⟩ = some (.int .i64 t169) := (blk_cell BK175.out 1).trans rfl; have hcz18_2 : w17.cell? ⟨gb175, 2, none⟩ = some (.bool false) := (blk_cell BK175.out 2).trans rfl; have hcz18_3 : w17.cell? ⟨gb175, 3, none⟩ = some (.slice Ao16 t171.length co16) := (blk_cell BK175.out 3).trans rfl; have hfz18_0 := blk_frozen BK175.out 0; have hfz18_1 := blk_frozen BK175.out 1; have hfz18_2 := blk_frozen BK175.out 2; have hfz18_3 := blk_frozen BK175.out 3))
            go_roundg k1
            case measure => have := HK1.out; omega
            case rel => exact ⟨(y176), (wrap64 (x7_1 + 1)), (by first | rfl | (simp; done) | (simp [*]; done) | (simp [isEmpty_bne]; done)), H', ⟨by have := HK1.out; omega⟩, ⟨by (with_reducible repeat (first | apply Kd.R_alloc | apply Kd.R_drewN | apply Kd.R_drew)); exact HO178.out⟩, ⟨by repeat (first | (with_reducible first | exact HB.out | apply below_alloc | apply pw_below_drewN | apply below_drew1 | refine below_set ?_ GE175.out) | exact HB.out)⟩⟩
        · rw [if_neg c5] at H
          exact absurd H (by simp)
      · replace c4 := Bool.eq_false_iff.mpr c4
        subst c4
        have H1 : (some (([] : List Int), false)) = some (r1, r2) := by rw [if_neg (show ¬ (false = true) by decide)] at H; exact H
        clear H
        have H := H1
        clear H1
        simp only [Option.some.injEq, Prod.mk.injEq] at H
        obtain ⟨rfl, rfl⟩ := H
        go_wp2_with (first | ((with_reducible refine gate_callee (f := 50) rfl ?_); refine goesL_ (some 16) rfl rfl Try.func50 (by kernel_rfl) rfl #[.slice A0 l0.length c0, .int .i64 a1, .int .i64 x7_1] rfl (by (try simp only [List.map_toArray, List.map_cons, List.map_nil]); first | done | rfl | (simp only [List.length_drop, List.length_take]; rfl)) ?_; (with_reducible refine (glossatorref3_chunk.calls k1 (fun k_ => k_ < w.heap.size) _ _ l0 a1 x7_1 t168 t169 t170 t171 false _ ?side1 A3.out).mono ?_); (case side1 => exact Kd.V_mk HC0.out (Kd.F_below (Kd.C_F k51_heap HR0.out) (by repeat (first | (with_reducible first | exact HB.out | apply below_alloc | apply pw_below_drewN | apply below_drew1) | exact HB.out)))); rintro e w19 ⟨v172, rfl, ho0, hb⟩; refine ⟨_, rfl, ?_⟩; have n0_ := Aside0.mk (Kd.R_below (by (with_reducible repeat (first | apply Kd.R_alloc | apply Kd.R_drewN | apply Kd.R_drew)); exact HO_6.out) hb); have n1_ := Aside0.mk (Kd.V_lower (Kd.V_mono (ok' := fun k_ => some k_ ≠ (u6 : Value).ownBlock) ho0 (fun k_ hk_ => Or.elim hk_ (fun hs_ => fun e_ => Nat.not_le.2 hs_ (Kd.R_base HO_6.out k_ e_.symm)) (fun hn_ => (Kd.fresh' (Kd.R_lt (by (with_reducible repeat (first | apply Kd.R_alloc | apply Kd.R_drewN | apply Kd.R_drew)); exact HO_6.out)) k_ hn_)))) (below_size (by repeat (first | (with_reducible first | exact HB.out | apply below_alloc | apply pw_below_drewN | apply below_drew1) | exact HB.out)))); have n2_ := Aside0.mk (below_step (by repeat (first | (with_reducible first | exact HB.out | apply below_alloc | apply pw_below_drewN | apply below_drew1) | exact HB.out)) hb); clear HO_6; clear HB; have HO_6 := n0_; have HO173 := n1_; have HB := n2_; clear n0_ n1_ n2_; (try clear hb); (try clear hb2); (try clear hk); (try clear hi); (try clear ho0)) | ((with_reducible refine gate_dst (N := 8) rfl ?_); refine box_event ?hg (N := 8) ?hd (cs := #[.int .i64 0, .int .i64 0, .bool false, .slice none 0 0]) (t := 51) ?hr ?_; (case hd => rfl); (case hg => rfl); (case hr => first | (go_simp; done) | (go_simp; rfl)); intro gb175 hg w20 hbox hb; have n0_ := Aside0.mk (Kd.R_below (by (with_reducible repeat (first | apply Kd.R_alloc | apply Kd.R_drewN | apply Kd.R_drew)); exact HO_6.out) hb); have n1_ := Aside0.mk (Kd.V_below (Kd.V_elderB (by (with_reducible repeat (first | apply Kd.V_alloc | apply Kd.V_drewN | apply Kd.V_drew)); exact HO173.out) gb175 (Nat.le_of_eq hg.symm)) hb); have n2_ := Aside0.mk (below_step (by repeat (first | (with_reducible first | exact HB.out | apply below_alloc | apply pw_below_drewN | apply below_drew1) | exact HB.out)) hb); have n3_ := Aside0.mk (hbox); have n4_ := Aside0.mk ((by rw [hg]; exact (below_size (by repeat (first | (with_reducible first | exact HB.out | apply below_alloc | apply pw_below_drewN | apply below_drew1) | exact HB.out))) : w.heap.size ≤ gb175)); have n5_ := Aside0.mk ((by rw [hg]; exact (below_size (by repeat (first | (with_reducible first | exact HB.out | apply below_alloc | apply pw_below_drewN | apply below_drew1) | exact HB.out))) : w.heap.size ≤ gb175)); clear HO_6; clear HO173; clear HB; have HO_6 := n0_; have HO173 := n1_; have HB := n2_; have BK175 := n3_; have GW175 := n4_; have GE175 := n5_; clear n0_ n1_ n2_ n3_ n4_ n5_; clear hb hbox hg; have hcz21_0 : w20.cell? ⟨gb175, 0, none⟩ = some (.int .i64 0) := (blk_cell BK175.out 0).trans rfl; have hcz21_1 : w20.cell? ⟨gb175, 1, none⟩ = some (.int .i64 0) := (blk_cell BK175.out 1).trans rfl; have hcz21_2 : w20.cell? ⟨gb175, 2, none⟩ = some (.bool false) := (blk_cell BK175.out 2).trans rfl; have hcz21_3 : w20.cell? ⟨gb175, 3, none⟩ = some (.slice none 0 0) := (blk_cell BK175.out 3).trans rfl; have hfz21_0 := blk_frozen BK175.out 0; have hfz21_1 := blk_frozen BK175.out 1; have hfz21_2 := blk_frozen BK175.out 2; have hfz21_3 := blk_frozen BK175.out 3; obtain ⟨Ao22, co22, eo22⟩ := Kd.V_slice HO173.out; subst eo22))
        go_ret2
        exact ⟨_, by first | rfl | (simp [errW_none, errW_some] <;> rfl) | (simp [*, errW_none, errW_some] <;> rfl), by first | exact Kd.R_nil _ _ _ _ _ | exact Kd.N_nil _ _ _ _ _ | exact Kd.V_nil _ _ _ _ _ | exact Kd.Q_nil _ _ _ _ _ | exact Kd.S_nil _ _ _ _ _, by repeat (first | (with_reducible first | exact HB.out | apply below_alloc | apply pw_below_drewN | apply below_drew1 | refine below_set ?_ GE175.out) | exact HB.out)⟩

-- NOT PRINTED: function 24 (progress_Assembler_Missing)

/-! ### glossatorref3_Missing: function 25 -/
mutual
def glossatorref3_Missing.l0 : Nat → List (S51) → Int → Int → List (S51) → Int → Int → Option (List Int)
  | 0, _, _, _, _, _, _ => none
  | k + 1, x0, x1, x5, x12, x13, x14 => if x14 < x13 then (if 0 ≤ x14 then (if x14 < (x12.length : Int) then (if ((rd_T51 x12 x14).f0) = x1 then (glossatorref3_Missing.l0 k x0 x1 (mx x5 ((rd_T51 x12 x14).f1)) x12 x13 (wrap64 (x14 + 1))) else (glossatorref3_Missing.l0 k x0 x1 x5 x12 x13 (wrap64 (x14 + 1)))) else (none)) else (none)) else (glossatorref3_Missing.l1 k x0 x1 x5 ([] : List Int) 0)
def glossatorref3_Missing.l1 : Nat → List (S51) → Int → Int → List Int → Int → Option (List Int)
  | 0, _, _, _, _, _ => none
  | k + 1, x0, x1, x5, x8, x9 => if x9 < x5 then ((glossatorref3_chunk.f k x0 x1 x9).bind fun bt181 => (if bt181.2.2.2.2 = true then (glossatorref3_Missing.l1 k x0 x1 x5 x8 (wrap64 (x9 + 1))) else (if x8.length < 17592186044416 then (glossatorref3_Missing.l1 k x0 x1 x5 (x8 ++ [x9]) (wrap64 (x9 + 1))) else (none)))) else (some x8)
end
def glossatorref3_Missing.f (k : Nat) (l0 : List (S51)) (a1 : Int) : Option (List Int) := glossatorref3_Missing.l0 k l0 a1 (-1) l0 (l0.length : Int) 0
theorem glossatorref3_Missing.mono_l : ∀ k, (∀ y0 y1 y2 y3 y4 y5, LeO (glossatorref3_Missing.l0 k y0 y1 y2 y3 y4 y5) (glossatorref3_Missing.l0 (k + 1) y0 y1 y2 y3 y4 y5)) ∧ (∀ y0 y1 y2 y3 y4, LeO (glossatorref3_Missing.l1 k y0 y1 y2 y3 y4) (glossatorref3_Missing.l1 (k + 1) y0 y1 y2 y3 y4))
  | 0 => ⟨fun _ _ _ _ _ _ r h => by simp [glossatorref3_Missing.l0] at h, fun _ _ _ _ _ r h => by simp [glossatorref3_Missing.l1] at h⟩
  | k + 1 => by
    obtain ⟨ih0, ih1⟩ := glossatorref3_Missing.mono_l k
    refine ⟨?_, ?_⟩
    · intro y0 y1 y2 y3 y4 y5
      unfold glossatorref3_Missing.l0
      repeat' first
      | (with_reducible exact ih0 _ _ _ _ _ _)
      | (with_reducible exact ih1 _ _ _ _ _)
      | (with_reducible exact glossatorref3_chunk.mono _ _ _ _)
      | (with_reducible exact LeO.refl _)
      | (with_reducible exact LeO.none _)
      | (with_reducible refine LeO.ite ?_ ?_)
      | (with_reducible refine LeO.bind ?_ (fun _ => ?_))
      | exact ih0 _ _ _ _ _ _
      | exact ih1 _ _ _ _ _
      | exact glossatorref3_chunk.mono _ _ _ _
      | exact LeO.none _
      | refine LeO.ite ?_ ?_
      | refine LeO.bind ?_ (fun _ => ?_)
    · intro y0 y1 y2 y3 y4
      unfold glossatorref3_Missing.l1
      repeat' first
      | (with_reducible exact ih0 _ _ _ _ _ _)
      | (with_reducible exact ih1 _ _ _ _ _)
      | (with_reducible exact glossatorref3_chunk.mono _ _ _ _)
      | (with_reducible exact LeO.refl _)
      | (with_reducible exact LeO.none _)
      | (with_reducible refine LeO.ite ?_ ?_)
      | (with_reducible refine LeO.bind ?_ (fun _ => ?_))
      | exact ih0 _ _ _ _ _ _
      | exact ih1 _ _ _ _ _
      | exact glossatorref3_chunk.mono _ _ _ _
      | exact LeO.none _
      | refine LeO.ite ?_ ?_
      | refine LeO.bind ?_ (fun _ => ?_)
theorem glossatorref3_Missing.mono : ∀ a0 a1 k, LeO (glossatorref3_Missing.f k a0 a1) (glossatorref3_Missing.f (k + 1) a0 a1) := by
  intro a0 a1 k
  obtain ⟨ih0, ih1⟩ := glossatorref3_Missing.mono_l k
  unfold glossatorref3_Missing.f
  repeat' first
      | (with_reducible exact ih0 _ _ _ _ _ _)
      | (with_reducible exact ih1 _ _ _ _ _)
      | (with_reducible exact glossatorref3_chunk.mono _ _ _ _)
      | (with_reducible exact LeO.refl _)
      | (with_reducible exact LeO.none _)
      | (with_reducible refine LeO.ite ?_ ?_)
      | (with_reducible refine LeO.bind ?_ (fun _ => ?_))
      | exact ih0 _ _ _ _ _ _
      | exact ih1 _ _ _ _ _
      | exact glossatorref3_chunk.mono _ _ _ _
      | exact LeO.none _
      | refine LeO.ite ?_ ?_
      | refine LeO.bind ?_ (fun _ => ?_)
set_option maxHeartbeats 8000000 in
set_option maxRecDepth 100000 in
theorem glossatorref3_Missing.calls (k : Nat) (A0 : Option Addr) (c0 : Nat) (l0 : List (S51)) (a1 : Int) (r : List Int) (w : World) (hr0 : Kd.C k51 w A0 l0.length l0) (hc0 : l0.length ≤ c0) (h : glossatorref3_Missing.f k l0 a1 = some r) :
    Calls Try.prog 25 #[.slice A0 l0.length c0, .int .i64 a1] w fun e w' => ∃ v0_ : Value, e = .returned (v0_) ∧ Kd.R (Kd.int .i64) 3 w' w.heap.size (fun _ => True) v0_ r ∧ Below w.heap.size w w' := by
  have hu51 := Try.underlying51
  have HR0 := Aside0.mk hr0
  have HC0 := Aside0.mk hc0
  clear hr0 hc0
  have HB := Aside0.mk (Below.refl w.heap.size w)
  have H : (glossatorref3_Missing.l0 k l0 a1 (-1) l0 (l0.length : Int) 0) = some r := h
  clear h
  have H' := Aside0.mk H
  clear H
  go_enter Try.func25, Try.ntmps25
  go_wp2
  go_loopg [5, 14] k (fun kq v5 v14 w' => ∃ (x5_1 : Int) (x14_1 : Int), v5 = .int .i64 x5_1 ∧ v14 = .int .i64 x14_1 ∧ Aside0 (glossatorref3_Missing.l0 kq l0 a1 x5_1 l0 (l0.length : Int) x14_1 = some r) ∧ Aside0 (kq ≤ k) ∧ Aside0 (Below w.heap.size w w'))
  case atStart => exact ⟨((-1)), (0), (by first | rfl | (simp; done) | (simp [*]; done) | (simp [isEmpty_bne]; done)), (by first | rfl | (simp; done) | (simp [*]; done) | (simp [isEmpty_bne]; done)), H', ⟨Nat.le_refl _⟩, ⟨by repeat (first | (with_reducible first | exact HB.out | apply below_alloc | apply pw_below_drewN | apply below_drew1) | exact HB.out)⟩⟩
  case round =>
    clear H'
    try clear c2
    try clear p2
    obtain ⟨x5_1, x14_1, rfl, rfl, HA, HK1, HB⟩ := hrel
    cases gk with
    | zero => exact absurd HA.out (by simp [glossatorref3_Missing.l0])
    | succ k1 =>
      have H := HA.out
      clear HA
      simp only [glossatorref3_Missing.l0] at H
      by_cases c3 : x14_1 < (l0.length : Int)
      · rw [if_pos c3] at H
        have c3b0 : decide (x14_1 < (l0.length : Int)) = true := decide_eq_true c3
        clear c3
        by_cases c4 : 0 ≤ x14_1
        · rw [if_pos c4] at H
          have c4b0 : decide (0 ≤ x14_1) = true := decide_eq_true c4
          clear c4
          by_cases c5 : x14_1 < (l0.length : Int)
          · rw [if_pos c5] at H
            have c5b0 : decide (x14_1 < (l0.length : Int)) = true := decide_eq_true c5
            clear c5
            by_cases c6 : ((rd_T51 l0 x14_1).f0) = a1
            · rw [if_pos c6] at H
              have c6b0 : (((rd_T51 l0 x14_1).f0) == a1) = true := beq_iff_eq.mpr c6
              have c6b1 : (((rd_T51 l0 x14_1).f0) != a1) = false := bne_eq_false_iff_eq.mpr c6
              clear c6
              obtain ⟨ji7, hji7⟩ : ∃ j_ : Int, (mx x5_1 ((rd_T51 l0 x14_1).f1)) = j_ := ⟨_, rfl⟩
              replace H : (glossatorref3_Missing.l0 k1 l0 a1 ji7 l0 (l0.length : Int) (wrap64 (x14_1 + 1))) = some r := by first | (rw [hji7] at H; exact H) | (simp only [hji7] at H ⊢; exact H)
              have hji7_ : (if x5_1 < ((rd_T51 l0 x14_1).f1) then ((rd_T51 l0 x14_1).f1) else x5_1) = ji7 := hji7
              have H' := Aside0.mk H
              clear H
              have p179 : 0 ≤ (x14_1 : Int) := of_decide_eq_true (by first | (with_reducible assumption) | assumption)
              have q179 : x14_1 < (l0.length : Int) := of_decide_eq_true (by first | (with_reducible assumption) | assumption)
              obtain ⟨ad179, A179_3, c179_3, e179, hx179_0, hx179_1, hx179_2, hx179_3, hl179_3, hi179_3⟩ := at_T51 HR0.out x14_1 p179 q179
              cases e179
              replace hx179_0 := (HB.out.cell (World.block_lt_of_cell? w _ hx179_0)).trans hx179_0
              replace hx179_1 := (HB.out.cell (World.block_lt_of_cell? w _ hx179_1)).trans hx179_1
              replace hx179_2 := (HB.out.cell (World.block_lt_of_cell? w _ hx179_2)).trans hx179_2
              replace hx179_3 := (HB.out.cell (World.block_lt_of_cell? w _ hx179_3)).trans hx179_3
              have HR179_3 := Aside0.mk hi179_3
              have HC179_3 := Aside0.mk hl179_3
              clear hi179_3 hl179_3
              replace p179 := eq_true p179
              replace q179 := eq_true q179
              go_wp2_with (first | ((with_reducible refine gate_dst (N := 7) rfl ?_); refine box_event ?hg (N := 7) ?hd (cs := #[.int .i64 0, .int .i64 0, .bool false, .slice none 0 0]) (t := 51) ?hr ?_; (case hd => rfl); (case hg => rfl); (case hr => first | (go_simp; done) | (go_simp; rfl)); intro gb180 hg w8 hbox hb; have n0_ := Aside0.mk (below_step (by repeat (first | (with_reducible first | exact HB.out | apply below_alloc | apply pw_below_drewN | apply below_drew1) | exact HB.out)) hb); have n1_ := Aside0.mk (hbox); have n2_ := Aside0.mk ((by rw [hg]; exact (below_size (by repeat (first | (with_reducible first | exact HB.out | apply below_alloc | apply pw_below_drewN | apply below_drew1) | exact HB.out))) : w.heap.size ≤ gb180)); have n3_ := Aside0.mk ((by rw [hg]; exact (below_size (by repeat (first | (with_reducible first | exact HB.out | apply below_alloc | apply pw_below_drewN | apply below_drew1) | exact HB.out))) : w.heap.size ≤ gb180)); clear HB; have HB := n0_; have BK180 := n1_; have GW180 := n2_; have GE180 := n3_; clear n0_ n1_ n2_ n3_; clear hb hbox hg; have hcz9_0 : w8.cell? ⟨gb180, 0, none⟩ = some (.int .i64 0) := (blk_cell BK180.out 0).trans rfl; have hcz9_1 : w8.cell? ⟨gb180, 1, none⟩ = some (.int .i64 0) := (blk_cell BK180.out 1).trans rfl; have hcz9_2 : w8.cell? ⟨gb180, 2, none⟩ = some (.bool false) := (blk_cell BK180.out 2).trans rfl; have hcz9_3 : w8.cell? ⟨gb180, 3, none⟩ = some (.slice none 0 0) := (blk_cell BK180.out 3).trans rfl; have hfz9_0 := blk_frozen BK180.out 0; have hfz9_1 := blk_frozen BK180.out 1; have hfz9_2 := blk_frozen BK180.out 2; have hfz9_3 := blk_frozen BK180.out 3))
              go_roundg k1
              case measure => have := HK1.out; omega
              case rel => exact ⟨(ji7), (wrap64 (x14_1 + 1)), (by first | rfl | (simp; done) | (simp only [← hji7] <;> (first | rfl | simp)) | (simp [*]; done)), (by first | rfl | (simp; done) | (simp [*]; done) | (simp [isEmpty_bne]; done)), H', ⟨by have := HK1.out; omega⟩, ⟨by repeat (first | (with_reducible first | exact HB.out | apply below_alloc | apply pw_below_drewN | apply below_drew1 | refine below_set ?_ GE180.out) | exact HB.out)⟩⟩
            · rw [if_neg c6] at H
              have c6b0 : (((rd_T51 l0 x14_1).f0) == a1) = false := beq_eq_false_iff_ne.mpr c6
              have c6b1 : (((rd_T51 l0 x14_1).f0) != a1) = true := bne_iff_ne.mpr c6
              have H' := Aside0.mk H
              clear H
              have p179 : 0 ≤ (x14_1 : Int) := of_decide_eq_true (by first | (with_reducible assumption) | assumption)
              have q179 : x14_1 < (l0.length : Int) := of_decide_eq_true (by first | (with_reducible assumption) | assumption)
              obtain ⟨ad179, A179_3, c179_3, e179, hx179_0, hx179_1, hx179_2, hx179_3, hl179_3, hi179_3⟩ := at_T51 HR0.out x14_1 p179 q179
              cases e179
              replace hx179_0 := (HB.out.cell (World.block_lt_of_cell? w _ hx179_0)).trans hx179_0
              replace hx179_1 := (HB.out.cell (World.block_lt_of_cell? w _ hx179_1)).trans hx179_1
              replace hx179_2 := (HB.out.cell (World.block_lt_of_cell? w _ hx179_2)).trans hx179_2
              replace hx179_3 := (HB.out.cell (World.block_lt_of_cell? w _ hx179_3)).trans hx179_3
              have HR179_3 := Aside0.mk hi179_3
              have HC179_3 := Aside0.mk hl179_3
              clear hi179_3 hl179_3
              replace p179 := eq_true p179
              replace q179 := eq_true q179
              go_wp2_with (first | ((with_reducible refine gate_dst (N := 7) rfl ?_); refine box_event ?hg (N := 7) ?hd (cs := #[.int .i64 0, .int .i64 0, .bool false, .slice none 0 0]) (t := 51) ?hr ?_; (case hd => rfl); (case hg => rfl); (case hr => first | (go_simp; done) | (go_simp; rfl)); intro gb180 hg w10 hbox hb; have n0_ := Aside0.mk (below_step (by repeat (first | (with_reducible first | exact HB.out | apply below_alloc | apply pw_below_drewN | apply below_drew1) | exact HB.out)) hb); have n1_ := Aside0.mk (hbox); have n2_ := Aside0.mk ((by rw [hg]; exact (below_size (by repeat (first | (with_reducible first | exact HB.out | apply below_alloc | apply pw_below_drewN | apply below_drew1) | exact HB.out))) : w.heap.size ≤ gb180)); have n3_ := Aside0.mk ((by rw [hg]; exact (below_size (by repeat (first | (with_reducible first | exact HB.out | apply below_alloc | apply pw_below_drewN | apply below_drew1) | exact HB.out))) : w.heap.size ≤ gb180)); clear HB; have HB := n0_; have BK180 := n1_; have GW180 := n2_; have GE180 := n3_; clear n0_ n1_ n2_ n3_; clear hb hbox hg; have hcz11_0 : w10.cell? ⟨gb180, 0, none⟩ = some (.int .i64 0) := (blk_cell BK180.out 0).trans rfl; have hcz11_1 : w10.cell? ⟨gb180, 1, none⟩ = some (.int .i64 0) := (blk_cell BK180.out 1).trans rfl; have hcz11_2 : w10.cell? ⟨gb180, 2, none⟩ = some (.bool false) := (blk_cell BK180.out 2).trans rfl; have hcz11_3 : w10.cell? ⟨gb180, 3, none⟩ = some (.slice none 0 0) := (blk_cell BK180.out 3).trans rfl; have hfz11_0 := blk_frozen BK180.out 0; have hfz11_1 := blk_frozen BK180.out 1; have hfz11_2 := blk_frozen BK180.out 2; have hfz11_3 := blk_frozen BK180.out 3))
              go_roundg k1
              case measure => have := HK1.out; omega
              case rel => exact ⟨(x5_1), (wrap64 (x14_1 + 1)), (by first | rfl | (simp; done) | (simp [*]; done) | (simp [isEmpty_bne]; done)), (by first | rfl | (simp; done) | (simp [*]; done) | (simp [isEmpty_bne]; done)), H', ⟨by have := HK1.out; omega⟩, ⟨by repeat (first | (with_reducible first | exact HB.out | apply below_alloc | apply pw_below_drewN | apply below_drew1 | refine below_set ?_ GE180.out) | exact HB.out)⟩⟩
          · rw [if_neg c5] at H
            exact absurd H (by simp)
        · rw [if_neg c4] at H
          exact absurd H (by simp)
      · rw [if_neg c3] at H
        have c3b0 : decide (x14_1 < (l0.length : Int)) = false := decide_eq_false c3
        clear c3
        have H' := Aside0.mk H
        clear H
        go_wp2
        go_loopg [8, 9] k1 (fun kq v8 v9 w' => ∃ (x8_2 : List Int) (x9_2 : Int), v9 = .int .i64 x9_2 ∧ Aside0 (glossatorref3_Missing.l1 kq l0 a1 x5_1 x8_2 x9_2 = some r) ∧ Aside0 (kq ≤ k1) ∧ Aside0 (Kd.R (Kd.int .i64) 3 w' w.heap.size (fun _ => True) v8 x8_2) ∧ Aside0 (Below w.heap.size w w'))
        case atStart => exact ⟨(([] : List Int)), (0), (by first | rfl | (simp; done) | (simp [*]; done) | (simp [isEmpty_bne]; done)), H', ⟨Nat.le_refl _⟩, ⟨by first | exact Kd.R_nil _ _ _ _ _ | exact Kd.N_nil _ _ _ _ _ | exact Kd.V_nil _ _ _ _ _ | exact Kd.Q_nil _ _ _ _ _ | exact Kd.S_nil _ _ _ _ _⟩, ⟨by repeat (first | (with_reducible first | exact HB.out | apply below_alloc | apply pw_below_drewN | apply below_drew1) | exact HB.out)⟩⟩
        case round =>
          clear H'
          try clear c1
          try clear p1
          try clear q1
          try clear hx1
          try clear c2
          try clear p2
          try clear c3
          try clear c3b0
          try clear c4
          try clear c4b0
          try clear c5
          try clear c5b0
          try clear c6
          try clear c6b0
          try clear c6b1
          try clear p6
          try clear hcz11_0
          try clear hcz11_1
          try clear hcz11_2
          try clear hcz11_3
          try clear hcz9_0
          try clear hcz9_1
          try clear hcz9_2
          try clear hcz9_3
          try clear hfz11_0
          try clear hfz11_1
          try clear hfz11_2
          try clear hfz11_3
          try clear hfz9_0
          try clear hfz9_1
          try clear hfz9_2
          try clear hfz9_3
          try clear hx179_0
          try clear hx179_1
          try clear hx179_2
          try clear hx179_3
          try clear p179
          try clear p2
          try clear q179
          obtain ⟨x8_2, x9_2, rfl, HA, HK2, HO_8, HB⟩ := hrel
          cases gk with
          | zero => exact absurd HA.out (by simp [glossatorref3_Missing.l1])
          | succ k2 =>
            have H := HA.out
            clear HA
            simp only [glossatorref3_Missing.l1] at H
            by_cases c12 : x9_2 < x5_1
            · rw [if_pos c12] at H
              have c12b0 : decide (x9_2 < x5_1) = true := decide_eq_true c12
              clear c12
              replace H := Option.bind_eq_some_iff.mp H
              obtain ⟨⟨t181, t182, t183, t184, t187⟩, A130, H⟩ := H
              replace H : (if t187 = true then (glossatorref3_Missing.l1 k2 l0 a1 x5_1 x8_2 (wrap64 (x9_2 + 1))) else (if x8_2.length < 17592186044416 then (glossatorref3_Missing.l1 k2 l0 a1 x5_1 (x8_2 ++ [x9_2]) (wrap64 (x9_2 + 1))) else (none))) = some r := H
              have A13 := Aside0.mk A130
              clear A130
              by_cases c14 : t187 = true
              · subst c14
                have H1 : (glossatorref3_Missing.l1 k2 l0 a1 x5_1 x8_2 (wrap64 (x9_2 + 1))) = some r := by rw [if_pos rfl] at H; exact H
                clear H
                have H := H1
                clear H1
                have H' := Aside0.mk H
                clear H
                go_wp2_with (first | ((with_reducible refine gate_callee (f := 50) rfl ?_); refine goesL_ (some 36) rfl rfl Try.func50 (by kernel_rfl) rfl #[.slice A0 l0.length c0, .int .i64 a1, .int .i64 x9_2] rfl (by (try simp only [List.map_toArray, List.map_cons, List.map_nil]); first | done | rfl | (simp only [List.length_drop, List.length_take]; rfl)) ?_; (with_reducible refine (glossatorref3_chunk.calls k2 (fun k_ => k_ < w.heap.size) _ _ l0 a1 x9_2 t181 t182 t183 t184 true _ ?side1 A13.out).mono ?_); (case side1 => exact Kd.V_mk HC0.out (Kd.F_below (Kd.C_F k51_heap HR0.out) (by repeat (first | (with_reducible first | exact HB.out | apply below_alloc | apply pw_below_drewN | apply below_drew1) | exact HB.out)))); rintro e w15 ⟨v185, rfl, ho0, hb⟩; refine ⟨_, rfl, ?_⟩; have n0_ := Aside0.mk (Kd.R_below (by (with_reducible repeat (first | apply Kd.R_alloc | apply Kd.R_drewN | apply Kd.R_drew)); exact HO_8.out) hb); have n1_ := Aside0.mk (Kd.V_lower (Kd.V_mono (ok' := fun k_ => some k_ ≠ (u8 : Value).ownBlock) ho0 (fun k_ hk_ => Or.elim hk_ (fun hs_ => fun e_ => Nat.not_le.2 hs_ (Kd.R_base HO_8.out k_ e_.symm)) (fun hn_ => (Kd.fresh' (Kd.R_lt (by (with_reducible repeat (first | apply Kd.R_alloc | apply Kd.R_drewN | apply Kd.R_drew)); exact HO_8.out)) k_ hn_)))) (below_size (by repeat (first | (with_reducible first | exact HB.out | apply below_alloc | apply pw_below_drewN | apply below_drew1) | exact HB.out)))); have n2_ := Aside0.mk (below_step (by repeat (first | (with_reducible first | exact HB.out | apply below_alloc | apply pw_below_drewN | apply below_drew1) | exact HB.out)) hb); clear HO_8; clear HB; have HO_8 := n0_; have HO186 := n1_; have HB := n2_; clear n0_ n1_ n2_; (try clear hb); (try clear hb2); (try clear hk); (try clear hi); (try clear ho0)) | ((with_reducible refine gate_dst (N := 10) rfl ?_); refine box_event ?hg (N := 10) ?hd (cs := #[.int .i64 0, .int .i64 0, .bool false, .slice none 0 0]) (t := 51) ?hr ?_; (case hd => rfl); (case hg => rfl); (case hr => first | (go_simp; done) | (go_simp; rfl)); intro gb188 hg w16 hbox hb; have n0_ := Aside0.mk (Kd.R_below (by (with_reducible repeat (first | apply Kd.R_alloc | apply Kd.R_drewN | apply Kd.R_drew)); exact HO_8.out) hb); have n1_ := Aside0.mk (Kd.V_below (Kd.V_elderB (by (with_reducible repeat (first | apply Kd.V_alloc | apply Kd.V_drewN | apply Kd.V_drew)); exact HO186.out) gb188 (Nat.le_of_eq hg.symm)) hb); have n2_ := Aside0.mk (below_step (by repeat (first | (with_reducible first | exact HB.out | apply below_alloc | apply pw_below_drewN | apply below_drew1) | exact HB.out)) hb); have n3_ := Aside0.mk (hbox); have n4_ := Aside0.mk ((by rw [hg]; exact (below_size (by repeat (first | (with_reducible first | exact HB.out | apply below_alloc | apply pw_below_drewN | apply below_drew1) | exact HB.out))) : w.heap.size ≤ gb188)); have n5_ := Aside0.mk ((by rw [hg]; exact (below_size (by repeat (first | (with_reducible first | exact HB.out | apply below_alloc | apply pw_below_drewN | apply below_drew1) | exact HB.out))) : w.heap.size ≤ gb188)); clear HO_8; clear HO186; clear HB; have HO_8 := n0_; have HO186 := n1_; have HB := n2_; have BK188 := n3_; have GW188 := n4_; have GE188 := n5_; clear n0_ n1_ n2_ n3_ n4_ n5_; clear hb hbox hg; have hcz17_0 : w16.cell? ⟨gb188, 0, none⟩ = some (.int .i64 0) := (blk_cell BK188.out 0).trans rfl; have hcz17_1 : w16.cell? ⟨gb188, 1, none⟩ = some (.int .i64 0) := (blk_cell BK188.out 1).trans rfl; have hcz17_2 : w16.cell? ⟨gb188, 2, none⟩ = some (.bool false) := (blk_cell BK188.out 2).trans rfl; have hcz17_3 : w16.cell? ⟨gb188, 3, none⟩ = some (.slice none 0 0) := (blk_cell BK188.out 3).trans rfl; have hfz17_0 := blk_frozen BK188.out 0; have hfz17_1 := blk_frozen BK188.out 1; have hfz17_2 := blk_frozen BK188.out 2; have hfz17_3 := blk_frozen BK188.out 3; obtain ⟨Ao18, co18, eo18⟩ := Kd.V_slice HO186.out; subst eo18))
                go_roundg k2
                case measure => have := HK1.out; have := HK2.out; omega
                case rel => exact ⟨(x8_2), (wrap64 (x9_2 + 1)), (by first | rfl | (simp; done) | (simp [*]; done) | (simp [isEmpty_bne]; done)), H', ⟨by have := HK1.out; have := HK2.out; omega⟩, ⟨by (with_reducible repeat (first | apply Kd.R_alloc | apply Kd.R_drewN | apply Kd.R_drew)); exact Kd.R_mono (Kd.R_far (p := ⟨gb188, 3, none⟩) (Kd.R_far (p := ⟨gb188, 2, none⟩) (Kd.R_far (p := ⟨gb188, 1, none⟩) (Kd.R_far (p := ⟨gb188, 0, none⟩) (Kd.R_types HO_8.out BK188.out (by decide)) (fun _ hk => hk.2) (.int .i64 t181)) (fun _ hk => hk.2) (.int .i64 t182)) (fun _ hk => hk.2) (.bool t183)) (fun _ hk => hk.2) (.slice Ao18 t184.length co18)) (fun _ hk => trivial)⟩, ⟨by repeat (first | (with_reducible first | exact HB.out | apply below_alloc | apply pw_below_drewN | apply below_drew1 | refine below_set ?_ GE188.out) | exact HB.out)⟩⟩
              · replace c14 := Bool.eq_false_iff.mpr c14
                subst c14
                have H1 : (if x8_2.length < 17592186044416 then (glossatorref3_Missing.l1 k2 l0 a1 x5_1 (x8_2 ++ [x9_2]) (wrap64 (x9_2 + 1))) else (none)) = some r := by rw [if_neg (show ¬ (false = true) by decide)] at H; exact H
                clear H
                have H := H1
                clear H1
                by_cases c19 : x8_2.length < 17592186044416
                · rw [if_pos c19] at H
                  have LMc19 := Aside0.mk c19
                  clear c19
                  obtain ⟨y189, hy189⟩ : ∃ y_ : List Int, y_ = (x8_2 ++ [x9_2]) := ⟨_, rfl⟩
                  replace H : (glossatorref3_Missing.l1 k2 l0 a1 x5_1 y189 (wrap64 (x9_2 + 1))) = some r := by first | (rw [hy189]; with_reducible exact H) | (have H2_ := (Option.bind_some _ _).symm.trans H; rw [hy189]; with_reducible exact H2_) | (have H2_ := (Option.bind_some _ _).symm.trans H; with_reducible exact H2_) | with_reducible exact H | (rw [hy189]; exact H) | exact H
                  have Ny189 := Aside0.mk hy189
                  clear hy189
                  have H' := Aside0.mk H
                  clear H
                  go_wp2_with (first | ((with_reducible refine gate_callee (f := 50) rfl ?_); refine goesL_ (some 36) rfl rfl Try.func50 (by kernel_rfl) rfl #[.slice A0 l0.length c0, .int .i64 a1, .int .i64 x9_2] rfl (by (try simp only [List.map_toArray, List.map_cons, List.map_nil]); first | done | rfl | (simp only [List.length_drop, List.length_take]; rfl)) ?_; (with_reducible refine (glossatorref3_chunk.calls k2 (fun k_ => k_ < w.heap.size) _ _ l0 a1 x9_2 t181 t182 t183 t184 false _ ?side1 A13.out).mono ?_); (case side1 => exact Kd.V_mk HC0.out (Kd.F_below (Kd.C_F k51_heap HR0.out) (by repeat (first | (with_reducible first | exact HB.out | apply below_alloc | apply pw_below_drewN | apply below_drew1) | exact HB.out)))); rintro e w20 ⟨v185, rfl, ho0, hb⟩; refine ⟨_, rfl, ?_⟩; have n0_ := Aside0.mk (Kd.R_below (by (with_reducible repeat (first | apply Kd.R_alloc | apply Kd.R_drewN | apply Kd.R_drew)); exact HO_8.out) hb); have n1_ := Aside0.mk (Kd.V_lower (Kd.V_mono (ok' := fun k_ => some k_ ≠ (u8 : Value).ownBlock) ho0 (fun k_ hk_ => Or.elim hk_ (fun hs_ => fun e_ => Nat.not_le.2 hs_ (Kd.R_base HO_8.out k_ e_.symm)) (fun hn_ => (Kd.fresh' (Kd.R_lt (by (with_reducible repeat (first | apply Kd.R_alloc | apply Kd.R_drewN | apply Kd.R_drew)); exact HO_8.out)) k_ hn_)))) (below_size (by repeat (first | (with_reducible first | exact HB.out | apply below_alloc | apply pw_below_drewN | apply below_drew1) | exact HB.out)))); have n2_ := Aside0.mk (below_step (by repeat (first | (with_reducible first | exact HB.out | apply below_alloc | apply pw_below_drewN | apply below_drew1) | exact HB.out)) hb); clear HO_8; clear HB; have HO_8 := n0_; have HO186 := n1_; have HB := n2_; clear n0_ n1_ n2_; (try clear hb); (try clear hb2); (try clear hk); (try clear hi); (try clear ho0)) | ((with_reducible refine gate_dst (N := 10) rfl ?_); refine box_event ?hg (N := 10) ?hd (cs := #[.int .i64 0, .int .i64 0, .bool false, .slice none 0 0]) (t := 51) ?hr ?_; (case hd => rfl); (case hg => rfl); (case hr => first | (go_simp; done) | (go_simp; rfl)); intro gb188 hg w21 hbox hb; have n0_ := Aside0.mk (Kd.R_below (by (with_reducible repeat (first | apply Kd.R_alloc | apply Kd.R_drewN | apply Kd.R_drew)); exact HO_8.out) hb); have n1_ := Aside0.mk (Kd.V_below (Kd.V_elderB (by (with_reducible repeat (first | apply Kd.V_alloc | apply Kd.V_drewN | apply Kd.V_drew)); exact HO186.out) gb188 (Nat.le_of_eq hg.symm)) hb); have n2_ := Aside0.mk (below_step (by repeat (first | (with_reducible first | exact HB.out | apply below_alloc | apply pw_below_drewN | apply below_drew1) | exact HB.out)) hb); have n3_ := Aside0.mk (hbox); have n4_ := Aside0.mk ((by rw [hg]; exact (below_size (by repeat (first | (with_reducible first | exact HB.out | apply below_alloc | apply pw_below_drewN | apply below_drew1) | exact HB.out))) : w.heap.size ≤ gb188)); have n5_ := Aside0.mk ((by rw [hg]; exact (below_size (by repeat (first | (with_reducible first | exact HB.out | apply below_alloc | apply pw_below_drewN | apply below_drew1) | exact HB.out))) : w.heap.size ≤ gb188)); clear HO_8; clear HO186; clear HB; have HO_8 := n0_; have HO186 := n1_; have HB := n2_; have BK188 := n3_; have GW188 := n4_; have GE188 := n5_; clear n0_ n1_ n2_ n3_ n4_ n5_; clear hb hbox hg; have hcz22_0 : w21.cell? ⟨gb188, 0, none⟩ = some (.int .i64 0) := (blk_cell BK188.out 0).trans rfl; have hcz22_1 : w21.cell? ⟨gb188, 1, none⟩ = some (.int .i64 0) := (blk_cell BK188.out 1).trans rfl; have hcz22_2 : w21.cell? ⟨gb188, 2, none⟩ = some (.bool false) := (blk_cell BK188.out 2).trans rfl; have hcz22_3 : w21.cell? ⟨gb188, 3, none⟩ = some (.slice none 0 0) := (blk_cell BK188.out 3).trans rfl; have hfz22_0 := blk_frozen BK188.out 0; have hfz22_1 := blk_frozen BK188.out 1; have hfz22_2 := blk_frozen BK188.out 2; have hfz22_3 := blk_frozen BK188.out 3; obtain ⟨Ao23, co23, eo23⟩ := Kd.V_slice HO186.out; subst eo23) | ((with_reducible refine gate_builtin (b := .append) (xs := #[.tmp 41, .tmp 43]) rfl ?_); at_builtin; refine Kd.R_append (Kd.int .i64) (w0 := w) w.heap.size rfl (.tmp 41) (.tmp 43) 24 3 (.int .i64 0) 8 rfl Try.underlying24 info3 rfl (by decide) (by omega) u8 x8_2 x9_2 [.int .i64 x9_2] (fun _ => True) (fun _ => False) rfl (by first | (go_simp; done) | (go_simp; rfl)) ?aP (fun _ hk => hk.elim) ?aF ?aO ?aB ?aS ?aL ?_; (case aP => exact rfl); (case aB => exact (by repeat (first | (with_reducible first | exact HB.out | apply below_alloc | apply pw_below_drewN | apply below_drew1 | refine below_set ?_ GE188.out) | exact HB.out))); (case aF => exact (fun _ _ => trivial)); (case aO => exact (by (with_reducible repeat (first | apply Kd.R_alloc | apply Kd.R_drewN | apply Kd.R_drew)); exact Kd.R_mono (Kd.R_far (p := ⟨gb188, 3, none⟩) (Kd.R_far (p := ⟨gb188, 2, none⟩) (Kd.R_far (p := ⟨gb188, 1, none⟩) (Kd.R_far (p := ⟨gb188, 0, none⟩) (Kd.R_types HO_8.out BK188.out (by decide)) (fun _ hk => hk.2) (.int .i64 t181)) (fun _ hk => hk.2) (.int .i64 t182)) (fun _ hk => hk.2) (.bool t183)) (fun _ hk => hk.2) (.slice Ao23 t184.length co23)) (fun _ hk => trivial))); (case aS => exact (below_size (by repeat (first | (with_reducible first | exact HB.out | apply below_alloc | apply pw_below_drewN | apply below_drew1 | refine below_set ?_ GE188.out) | exact HB.out)))); (case aL => have := LMc19.out; omega); intro v190 w24 ho hb hg hat; rw [← Ny189.out] at ho; have n0_ := Aside0.mk (Kd.V_afterv (ok := (fun k_ => k_ ≠ gb188)) (by (with_reducible repeat (first | apply Kd.V_alloc | apply Kd.V_drewN | apply Kd.V_drew)); exact Kd.V_mono (Kd.V_far (p := ⟨gb188, 3, none⟩) (Kd.V_far (p := ⟨gb188, 2, none⟩) (Kd.V_far (p := ⟨gb188, 1, none⟩) (Kd.V_far (p := ⟨gb188, 0, none⟩) (Kd.V_mono HO186.out (fun k_ hk => (⟨hk, hk.2⟩ : _ ∧ k_ ≠ gb188))) (fun _ hk => hk.2) (.int .i64 t181)) (fun _ hk => hk.2) (.int .i64 t182)) (fun _ hk => hk.2) (.bool t183)) (fun _ hk => hk.2) (.slice Ao23 t184.length co23)) (fun _ hk => ⟨hk.1.2, hk.1.1⟩)) hg hat); have n1_ := Aside0.mk (blk_grown (g := gb188) (o := .cells #[.int .i64 t181, .int .i64 t182, .bool t183, .slice Ao23 t184.length co23] 51 (0, 0)) (by (with_reducible repeat (first | refine blk_drewN ?_ _ | refine blk_drew ?_ | refine blk_alloc ?_ _)); refine blk_put (cs := #[.int .i64 t181, .int .i64 t182, .bool t183, .slice none 0 0]) ?_ 3 _ rfl; (with_reducible repeat (first | refine blk_drewN ?_ _ | refine blk_drew ?_ | refine blk_alloc ?_ _)); refine blk_put (cs := #[.int .i64 t181, .int .i64 t182, .bool false, .slice none 0 0]) ?_ 2 _ rfl; (with_reducible repeat (first | refine blk_drewN ?_ _ | refine blk_drew ?_ | refine blk_alloc ?_ _)); refine blk_put (cs := #[.int .i64 t181, .int .i64 0, .bool false, .slice none 0 0]) ?_ 1 _ rfl; (with_reducible repeat (first | refine blk_drewN ?_ _ | refine blk_drew ?_ | refine blk_alloc ?_ _)); refine blk_put (cs := #[.int .i64 0, .int .i64 0, .bool false, .slice none 0 0]) ?_ 0 _ rfl; (with_reducible repeat (first | refine blk_drewN ?_ _ | refine blk_drew ?_ | refine blk_alloc ?_ _)); exact BK188.out) hg (Kd.R_ne HO_8.out BK188.out (by decide))); have n2_ := Aside0.mk (hb); have n3_ := Aside0.mk (ho); clear HO186; clear BK188; clear HB; clear HO_8; have HO186 := n0_; have BK188 := n1_; have HB := n2_; have HO191 := n3_; clear n0_ n1_ n2_ n3_; clear ho hb hg hat))
                  go_roundg k2
                  case measure => have := HK1.out; have := HK2.out; omega
                  case rel => exact ⟨(y189), (wrap64 (x9_2 + 1)), (by first | rfl | (simp; done) | (simp [*]; done) | (simp [isEmpty_bne]; done)), H', ⟨by have := HK1.out; have := HK2.out; omega⟩, ⟨by (with_reducible repeat (first | apply Kd.R_alloc | apply Kd.R_drewN | apply Kd.R_drew)); exact HO191.out⟩, ⟨by repeat (first | (with_reducible first | exact HB.out | apply below_alloc | apply pw_below_drewN | apply below_drew1 | refine below_set ?_ GE188.out) | exact HB.out)⟩⟩
                · rw [if_neg c19] at H
                  exact absurd H (by simp)
            · rw [if_neg c12] at H
              have c12b0 : decide (x9_2 < x5_1) = false := decide_eq_false c12
              clear c12
              obtain rfl := Option.some.inj H
              go_wp2
              go_ret
              exact ⟨_, by first | rfl | (simp [errW_none, errW_some] <;> rfl) | (simp [*, errW_none, errW_some] <;> rfl), by (with_reducible repeat (first | apply Kd.R_alloc | apply Kd.R_drewN | apply Kd.R_drew)); exact HO_8.out, by repeat (first | (with_reducible first | exact HB.out | apply below_alloc | apply pw_below_drewN | apply below_drew1) | exact HB.out)⟩

-- NOT PRINTED: function 4 (glossatorlaw3_ProgressAssembler)

end Go.Proofs.Ytogpjenmfgpfiaa.QProgressAssembler
