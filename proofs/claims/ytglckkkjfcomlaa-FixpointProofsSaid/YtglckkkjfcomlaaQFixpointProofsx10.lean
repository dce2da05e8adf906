-- Written by gen.py (this repo's wip/), which runs the kit's print.py with more arms. Lean checks it.
import Derived.Test.YtglckkkjfcomlaaQFixpointProofsx0
namespace Go.Proofs.Ytglckkkjfcomlaa.QFixpointProofs
open Go.RowKit Go.Proofs.YtglckkkjfcomlaaW.PrintWords Go.Proofs.YtglckkkjfcomlaaW.PrintLast Go.Proofs.YtglckkkjfcomlaaW.PrintMore
attribute [local go_sem] max2_int min2_int max_two min_two max_three min_three max_four min_four   -- for this text's walks alone
set_option linter.unusedVariables false
set_option linter.unusedSimpArgs false

private theorem isEmpty_bne {α : Type} [BEq α] (l : List α) : (l != []) = !l.isEmpty := by cases l <;> rfl

/-! ### glossatorref3_Proves: function 38 -/
mutual
def glossatorref3_Proves.l0 : Nat → List (List (S58)) → List (S182) → Int → Int → List (S182) → Int → Int → Option (Bool)
 | 0, _, _, _, _, _, _, _ => none
 | k + 1, x0, x1, x2, x3, x17, x18, x19 => if x19 < x18 then (if 0 ≤ x19 then (if x19 < (x17.length : Int) then (if ((rd_T182 x17 x19).f0) < 0 then (glossatorref3_Proves.j1 k x0 x1 x2 x3 x19 x17 x18 x19 true ((rd_T182 x17 x19).f0) ((rd_T182 x17 x19).f1) ((rd_T182 x17 x19).f2)) else (if ((rd_T182 x17 x19).f0) ≥ (x0.length : Int) then (glossatorref3_Proves.j1 k x0 x1 x2 x3 x19 x17 x18 x19 true ((rd_T182 x17 x19).f0) ((rd_T182 x17 x19).f1) ((rd_T182 x17 x19).f2)) else (if ((rd_T182 x17 x19).f2) < 0 then (glossatorref3_Proves.j1 k x0 x1 x2 x3 x19 x17 x18 x19 true ((rd_T182 x17 x19).f0) ((rd_T182 x17 x19).f1) ((rd_T182 x17 x19).f2)) else (if ((rd_T182 x17 x19).f2) ≥ 20 then (glossatorref3_Proves.j1 k x0 x1 x2 x3 x19 x17 x18 x19 true ((rd_T182 x17 x19).f0) ((rd_T182 x17 x19).f1) ((rd_T182 x17 x19).f2)) else (if ((rd_T182 x17 x19).f1) < 0 then (glossatorref3_Proves.j1 k x0 x1 x2 x3 x19 x17 x18 x19 true ((rd_T182 x17 x19).f0) ((rd_T182 x17 x19).f1) ((rd_T182 x17 x19).f2)) else (if 0 ≤ ((rd_T182 x17 x19).f0) then (if ((rd_T182 x17 x19).f0) < (x0.length : Int) then (glossatorref3_Proves.j1 k x0 x1 x2 x3 x19 x17 x18 x19 (decide (((rd_T182 x17 x19).f1) ≥ ((rd_L3 x0 ((rd_T182 x17 x19).f0)).length : Int))) ((rd_T182 x17 x19).f0) ((rd_T182 x17 x19).f1) ((rd_T182 x17 x19).f2)) else (none)) else (none))))))) else (none)) else (none)) else (if (x1.length : Int) > 0 then (if 0 ≤ (wrap64 ((x1.length : Int) - 1)) then (if (wrap64 ((x1.length : Int) - 1)) < (x1.length : Int) then (if ((rd_T182 x1 (wrap64 ((x1.length : Int) - 1))).f0) = x2 then (some (((rd_T182 x1 (wrap64 ((x1.length : Int) - 1))).f2) == x3)) else (some false)) else (none)) else (none)) else (some false))
def glossatorref3_Proves.j1 : Nat → List (List (S58)) → List (S182) → Int → Int → Int → List (S182) → Int → Int → Bool → Int → Int → Int → Option (Bool)
 | 0, _, _, _, _, _, _, _, _, _, _, _, _ => none
 | k + 1, x0, x1, x2, x3, x9, x17, x18, x19, x59, x256000, x256001, x256002 => if x59 = true then (some false) else (if 0 ≤ x256000 then (if x256000 < (x0.length : Int) then (if 0 ≤ x256001 then (if x256001 < ((rd_L3 x0 x256000).length : Int) then (if 0 ≤ x256002 then (if (Go.bits .and .i64 ((rd_T58 (rd_L3 x0 x256000) x256001).f0) (shl .i64 1 x256002)) = 0 then (some false) else (glossatorref3_Proves.l1 k x0 x1 x2 x3 x9 x17 x18 x19 ((rd_T58 (rd_L3 x0 x256000) x256001).f1) (((rd_T58 (rd_L3 x0 x256000) x256001).f1).length : Int) 0 x256000 x256001 x256002)) else (none)) else (none)) else (none)) else (none)) else (none))
def glossatorref3_Proves.l1 : Nat → List (List (S58)) → List (S182) → Int → Int → Int → List (S182) → Int → Int → List Int → Int → Int → Int → Int → Int → Option (Bool)
 | 0, _, _, _, _, _, _, _, _, _, _, _, _, _, _ => none
 | k + 1, x0, x1, x2, x3, x9, x17, x18, x19, x77, x78, x79, x256000, x256001, x256002 => if x79 < x78 then (if 0 ≤ x79 then (if x79 < (x77.length : Int) then (if 0 ≤ x9 then (if x9 ≤ (x1.length : Int) then ((some (x1.take (x9 : Int).toNat : List (S182))).bind fun y261 => (glossatorref3_Proves.l2 k x0 x1 x2 x3 x9 (rd x77 x79) false x17 x18 x19 x77 x78 x79 y261 (y261.length : Int) 0 x256000 x256001 x256002)) else (none)) else (none)) else (none)) else (none)) else (glossatorref3_Proves.l0 k x0 x1 x2 x3 x17 x18 (wrap64 (x19 + 1)))
def glossatorref3_Proves.l2 : Nat → List (List (S58)) → List (S182) → Int → Int → Int → Int → Bool → List (S182) → Int → Int → List Int → Int → Int → List (S182) → Int → Int → Int → Int → Int → Option (Bool)
 | 0, _, _, _, _, _, _, _, _, _, _, _, _, _, _, _, _, _, _, _ => none
 | k + 1, x0, x1, x2, x3, x9, x13, x14, x17, x18, x19, x77, x78, x79, x85, x86, x87, x256000, x256001, x256002 => if x87 < x86 then (if 0 ≤ x87 then (if x87 < (x85.length : Int) then (if x14 = true then (glossatorref3_Proves.l2 k x0 x1 x2 x3 x9 x13 true x17 x18 x19 x77 x78 x79 x85 x86 (wrap64 (x87 + 1)) x256000 x256001 x256002) else (if ((rd_T182 x85 x87).f0) = x13 then (glossatorref3_Proves.l2 k x0 x1 x2 x3 x9 x13 (((rd_T182 x85 x87).f2) == x256002) x17 x18 x19 x77 x78 x79 x85 x86 (wrap64 (x87 + 1)) x256000 x256001 x256002) else (glossatorref3_Proves.l2 k x0 x1 x2 x3 x9 x13 false x17 x18 x19 x77 x78 x79 x85 x86 (wrap64 (x87 + 1)) x256000 x256001 x256002))) else (none)) else (none)) else (if x14 = true then (glossatorref3_Proves.l1 k x0 x1 x2 x3 x9 x17 x18 x19 x77 x78 (wrap64 (x79 + 1)) x256000 x256001 x256002) else (some false))
end
def glossatorref3_Proves.f (k : Nat) (l0 : List (List (S58))) (l1 : List (S182)) (a2 : Int) (a3 : Int) : Option (Bool) := glossatorref3_Proves.l0 k l0 l1 a2 a3 l1 (l1.length : Int) 0
theorem glossatorref3_Proves.mono_l : ∀ k, (∀ y0 y1 y2 y3 y4 y5 y6, LeO (glossatorref3_Proves.l0 k y0 y1 y2 y3 y4 y5 y6) (glossatorref3_Proves.l0 (k + 1) y0 y1 y2 y3 y4 y5 y6)) ∧ (∀ y0 y1 y2 y3 y4 y5 y6 y7 y8 y9 y10 y11, LeO (glossatorref3_Proves.j1 k y0 y1 y2 y3 y4 y5 y6 y7 y8 y9 y10 y11) (glossatorref3_Proves.j1 (k + 1) y0 y1 y2 y3 y4 y5 y6 y7 y8 y9 y10 y11)) ∧ (∀ y0 y1 y2 y3 y4 y5 y6 y7 y8 y9 y10 y11 y12 y13, LeO (glossatorref3_Proves.l1 k y0 y1 y2 y3 y4 y5 y6 y7 y8 y9 y10 y11 y12 y13) (glossatorref3_Proves.l1 (k + 1) y0 y1 y2 y3 y4 y5 y6 y7 y8 y9 y10 y11 y12 y13)) ∧ (∀ y0 y1 y2 y3 y4 y5 y6 y7 y8 y9 y10 y11 y12 y13 y14 y15 y16 y17 y18, LeO (glossatorref3_Proves.l2 k y0 y1 y2 y3 y4 y5 y6 y7 y8 y9 y10 y11 y12 y13 y14 y15 y16 y17 y18) (glossatorref3_Proves.l2 (k + 1) y0 y1 y2 y3 y4 y5 y6 y7 y8 y9 y10 y11 y12 y13 y14 y15 y16 y17 y18))
 | 0 => ⟨fun _ _ _ _ _ _ _ r h => by simp [glossatorref3_Proves.l0] at h, fun _ _ _ _ _ _ _ _ _ _ _ _ r h => by simp [glossatorref3_Proves.j1] at h, fun _ _ _ _ _ _ _ _ _ _ _ _ _ _ r h => by simp [glossatorref3_Proves.l1] at h, fun _ _ _ _ _ _ _ _ _ _ _ _ _ _ _ _ _ _ _ r h => by simp [glossatorref3_Proves.l2] at h⟩
 | k + 1 => by
  obtain ⟨ih0, ih1, ih2, ih3⟩ := glossatorref3_Proves.mono_l k
  refine ⟨?_, ?_, ?_, ?_⟩
  ·intro y0 y1 y2 y3 y4 y5 y6
   unfold glossatorref3_Proves.l0
   repeat' first
   | (with_reducible exact ih0 _ _ _ _ _ _ _)
   | (with_reducible exact ih1 _ _ _ _ _ _ _ _ _ _ _ _)
   | (with_reducible exact ih2 _ _ _ _ _ _ _ _ _ _ _ _ _ _)
   | (with_reducible exact ih3 _ _ _ _ _ _ _ _ _ _ _ _ _ _ _ _ _ _ _)
   | (with_reducible exact LeO.refl _)
   | (with_reducible exact LeO.none _)
   | (with_reducible refine LeO.ite ?_ ?_)
   | (with_reducible refine LeO.bind ?_ (fun _ => ?_))
   | exact ih0 _ _ _ _ _ _ _
   | exact ih1 _ _ _ _ _ _ _ _ _ _ _ _
   | exact ih2 _ _ _ _ _ _ _ _ _ _ _ _ _ _
   | exact ih3 _ _ _ _ _ _ _ _ _ _ _ _ _ _ _ _ _ _ _
   | exact LeO.none _
   | refine LeO.ite ?_ ?_
   | refine LeO.bind ?_ (fun _ => ?_)
  ·intro y0 y1 y2 y3 y4 y5 y6 y7 y8 y9 y10 y11
   unfold glossatorref3_Proves.j1
   repeat' first
   | (with_reducible exact ih0 _ _ _ _ _ _ _)
   | (with_reducible exact ih1 _ _ _ _ _ _ _ _ _ _ _ _)
   | (with_reducible exact ih2 _ _ _ _ _ _ _ _ _ _ _ _ _ _)
   | (with_reducible exact ih3 _ _ _ _ _ _ _ _ _ _ _ _ _ _ _ _ _ _ _)
   | (with_reducible exact LeO.refl _)
   | (with_reducible exact LeO.none _)
   | (with_reducible refine LeO.ite ?_ ?_)
   | (with_reducible refine LeO.bind ?_ (fun _ => ?_))
   | exact ih0 _ _ _ _ _ _ _
   | exact ih1 _ _ _ _ _ _ _ _ _ _ _ _
   | exact ih2 _ _ _ _ _ _ _ _ _ _ _ _ _ _
   | exact ih3 _ _ _ _ _ _ _ _ _ _ _ _ _ _ _ _ _ _ _
   | exact LeO.none _
   | refine LeO.ite ?_ ?_
   | refine LeO.bind ?_ (fun _ => ?_)
  ·intro y0 y1 y2 y3 y4 y5 y6 y7 y8 y9 y10 y11 y12 y13
   unfold glossatorref3_Proves.l1
   repeat' first
   | (with_reducible exact ih0 _ _ _ _ _ _ _)
   | (with_reducible exact ih1 _ _ _ _ _ _ _ _ _ _ _ _)
   | (with_reducible exact ih2 _ _ _ _ _ _ _ _ _ _ _ _ _ _)
   | (with_reducible exact ih3 _ _ _ _ _ _ _ _ _ _ _ _ _ _ _ _ _ _ _)
   | (with_reducible exact LeO.refl _)
   | (with_reducible exact LeO.none _)
   | (with_reducible refine LeO.ite ?_ ?_)
   | (with_reducible refine LeO.bind ?_ (fun _ => ?_))
   | exact ih0 _ _ _ _ _ _ _
   | exact ih1 _ _ _ _ _ _ _ _ _ _ _ _
   | exact ih2 _ _ _ _ _ _ _ _ _ _ _ _ _ _
   | exact ih3 _ _ _ _ _ _ _ _ _ _ _ _ _ _ _ _ _ _ _
   | exact LeO.none _
   | refine LeO.ite ?_ ?_
   | refine LeO.bind ?_ (fun _ => ?_)
  ·intro y0 y1 y2 y3 y4 y5 y6 y7 y8 y9 y10 y11 y12 y13 y14 y15 y16 y17 y18
   unfold glossatorref3_Proves.l2
   repeat' first
   | (with_reducible exact ih0 _ _ _ _ _ _ _)
   | (with_reducible exact ih1 _ _ _ _ _ _ _ _ _ _ _ _)
   | (with_reducible exact ih2 _ _ _ _ _ _ _ _ _ _ _ _ _ _)
   | (with_reducible exact ih3 _ _ _ _ _ _ _ _ _ _ _ _ _ _ _ _ _ _ _)
   | (with_reducible exact LeO.refl _)
   | (with_reducible exact LeO.none _)
   | (with_reducible refine LeO.ite ?_ ?_)
   | (with_reducible refine LeO.bind ?_ (fun _ => ?_))
   | exact ih0 _ _ _ _ _ _ _
   | exact ih1 _ _ _ _ _ _ _ _ _ _ _ _
   | exact ih2 _ _ _ _ _ _ _ _ _ _ _ _ _ _
   | exact ih3 _ _ _ _ _ _ _ _ _ _ _ _ _ _ _ _ _ _ _
   | exact LeO.none _
   | refine LeO.ite ?_ ?_
   | refine LeO.bind ?_ (fun _ => ?_)
theorem glossatorref3_Proves.mono : ∀ a0 a1 a2 a3 k, LeO (glossatorref3_Proves.f k a0 a1 a2 a3) (glossatorref3_Proves.f (k + 1) a0 a1 a2 a3) := by
 intro a0 a1 a2 a3 k
 obtain ⟨ih0, ih1, ih2, ih3⟩ := glossatorref3_Proves.mono_l k
 unfold glossatorref3_Proves.f
 repeat' first
   | (with_reducible exact ih0 _ _ _ _ _ _ _)
   | (with_reducible exact ih1 _ _ _ _ _ _ _ _ _ _ _ _)
   | (with_reducible exact ih2 _ _ _ _ _ _ _ _ _ _ _ _ _ _)
   | (with_reducible exact ih3 _ _ _ _ _ _ _ _ _ _ _ _ _ _ _ _ _ _ _)
   | (with_reducible exact LeO.refl _)
   | (with_reducible exact LeO.none _)
   | (with_reducible refine LeO.ite ?_ ?_)
   | (with_reducible refine LeO.bind ?_ (fun _ => ?_))
   | exact ih0 _ _ _ _ _ _ _
   | exact ih1 _ _ _ _ _ _ _ _ _ _ _ _
   | exact ih2 _ _ _ _ _ _ _ _ _ _ _ _ _ _
   | exact ih3 _ _ _ _ _ _ _ _ _ _ _ _ _ _ _ _ _ _ _
   | exact LeO.none _
   | refine LeO.ite ?_ ?_
   | refine LeO.bind ?_ (fun _ => ?_)
def glossatorref3_Proves.T4 : Bool × List (List Nat × List Nat) := (true, [([], []), ([0], [0]), ([1], [1]), ([2], [2]), ([3], [3]), ([4, 3], [3, 4]), ([3], [3]), ([6, 3], [3, 6]), ([5, 7, 3], [3, 5, 7]), ([3, 8], [3, 8]), ([9, 3], [9]), ([10], [10]), ([11, 10], [10, 11]), ([12, 10], [10, 12]), ([10, 13], [10, 13]), ([14, 10], [14]), ([15], [15]), ([16, 15], [15, 16]), ([17, 15], [15, 17]), ([15, 18], [15, 18]), ([19, 15], [19]), ([20], [20]), ([21, 20], [20, 21]), ([22, 20], [20, 22]), ([20, 23], [20, 23]), ([24, 20], [24]), ([25], [25]), ([26, 25], [25, 26]), ([25], [25]), ([25], [25]), ([29, 25], [25, 29]), ([28, 30, 25], [25, 28, 30]), ([31, 25], [25, 31]), ([32, 25], [25, 32]), ([27, 33, 25], [25, 27, 33]), ([25, 34], [25, 34])])
def glossatorref3_Proves.B4 : List Nat := [0, 1, 3, 7, 15, 31, 15, 79, 255, 511, 1023, 2047, 4095, 8191, 16383, 32767, 65535, 131071, 262143, 524287, 1048575, 2097151, 4194303, 8388607, 16777215, 33554431, 67108863, 134217727, 67108863, 67108863, 603979775, 1946157055, 4093640703, 8388607999, 17179869183, 34359738367]
theorem glossatorref3_Proves.tab4 : rtab .any (opsOf Try.f38 4) = glossatorref3_Proves.T4 := by kernel_rfl
theorem glossatorref3_Proves.bits4 : waitsOk glossatorref3_Proves.T4.2 glossatorref3_Proves.B4 = true := by kernel_rfl
def glossatorref3_Proves.T6 : Bool × List (List Nat × List Nat) := (true, [([], []), ([], []), ([1], [1]), ([0, 2], [0, 2]), ([3], [3]), ([], []), ([5], [5]), ([4, 6], [4, 6]), ([7], [7]), ([], []), ([9, 8, 0, 1, 2, 3, 4, 5, 6, 7, 8, 9], [8, 9])])
def glossatorref3_Proves.B6 : List Nat := [0, 0, 2, 7, 15, 0, 32, 127, 255, 0, 1023]
theorem glossatorref3_Proves.tab6 : rtab .any (opsOf Try.f38 6) = glossatorref3_Proves.T6 := by kernel_rfl
theorem glossatorref3_Proves.bits6 : waitsOk glossatorref3_Proves.T6.2 glossatorref3_Proves.B6 = true := by kernel_rfl
set_option maxHeartbeats 8000000 in
set_option maxRecDepth 100000 in
theorem glossatorref3_Proves.calls (k : Nat) (A0 : Option Addr) (c0 : Nat) (l0 : List (List (S58))) (A1 : Option Addr) (c1 : Nat) (l1 : List (S182)) (a2 : Int) (a3 : Int) (r : Bool) (w : World) (hr0 : Kd.C (Kd.slice 58 k58) w A0 l0.length l0) (hc0 : l0.length ≤ c0) (hr1 : Kd.C k182 w A1 l1.length l1) (hc1 : l1.length ≤ c1) (h : glossatorref3_Proves.f k l0 l1 a2 a3 = some r) :
  Calls Try.prog 38 #[.slice A0 l0.length c0, .slice A1 l1.length c1, .int .i64 a2, .int .i64 a3] w fun e w' => e = .returned (.bool r) ∧ Below w.heap.size w w' := by
 have hu182 := Try.underlying182
 have hu58 := Try.underlying58
 have HR0 := Aside0.mk hr0
 have HC0 := Aside0.mk hc0
 clear hr0 hc0
 have HR1 := Aside0.mk hr1
 have HC1 := Aside0.mk hc1
 clear hr1 hc1
 have HB := Aside0.mk (Below.refl w.heap.size w)
 have H : (glossatorref3_Proves.l0 k l0 l1 a2 a3 l1 (l1.length : Int) 0) = some r := h
 clear h
 have H' := Aside0.mk H
 clear H
 go_enter Try.func38, Try.ntmps38
 go_wp2
 go_loopg [19] k (fun kq v19 w' => ∃ (x19_1 : Int), v19 = .int .i64 x19_1 ∧ Aside0 (glossatorref3_Proves.l0 kq l0 l1 a2 a3 l1 (l1.length : Int) x19_1 = some r) ∧ Aside0 (kq ≤ k) ∧ Aside0 (Below w.heap.size w w'))
 case atStart => exact ⟨(0), (by first | rfl | (simp; done) | (simp [*]; done) | (simp [isEmpty_bne]; done)), H', ⟨Nat.le_refl _⟩, ⟨by repeat (first | (with_reducible first | exact HB.out | apply below_alloc | apply pw_below_drewN | apply below_drew1) | exact HB.out)⟩⟩
 case round =>
  clear H'
  try clear c1
  try clear p2
  try clear c3
  obtain ⟨x19_1, rfl, HA, HK1, HB⟩ := hrel
  cases gk with
  | zero => exact absurd HA.out (by simp [glossatorref3_Proves.l0])
  | succ k1 =>
   have H := HA.out
   clear HA
   simp only [glossatorref3_Proves.l0] at H
   by_cases c5 : x19_1 < (l1.length : Int)
   ·rw [if_pos c5] at H
    have c5b0 : decide (x19_1 < (l1.length : Int)) = true := decide_eq_true c5
    clear c5
    by_cases c6 : 0 ≤ x19_1
    ·rw [if_pos c6] at H
     have c6b0 : decide (0 ≤ x19_1) = true := decide_eq_true c6
     clear c6
     by_cases c7 : x19_1 < (l1.length : Int)
     ·rw [if_pos c7] at H
      have c7b0 : decide (x19_1 < (l1.length : Int)) = true := decide_eq_true c7
      clear c7
      have HC8 := Aside0.mk H
      clear H
      have p254 : 0 ≤ (x19_1 : Int) := of_decide_eq_true (by first | (with_reducible assumption) | assumption)
      have q254 : x19_1 < (l1.length : Int) := of_decide_eq_true (by first | (with_reducible assumption) | assumption)
      obtain ⟨ad254, e254, hx254_0, hx254_1, hx254_2⟩ := at_T182 HR1.out x19_1 p254 q254
      cases e254
      replace hx254_0 := (HB.out.cell (World.block_lt_of_cell? w _ hx254_0)).trans hx254_0
      replace hx254_1 := (HB.out.cell (World.block_lt_of_cell? w _ hx254_1)).trans hx254_1
      replace hx254_2 := (HB.out.cell (World.block_lt_of_cell? w _ hx254_2)).trans hx254_2
      replace p254 := eq_true p254
      replace q254 := eq_true q254
      go_upto_region 4 with (first | ((with_reducible refine gate_dst (N := 10) rfl ?_); (try (refine gate_guard (by rfl) ?_; dsimp only)); refine box_event ?hg (N := 10) ?hd (cs := #[.int .i64 0, .int .i64 0, .int .i64 0]) (t := 182) ?hr ?_; (case hd => rfl); (case hg => rfl); (case hr => first | (go_simp; done) | (go_simp; rfl)); intro gb255 hg w9 hbox hb; have n0_ := Aside0.mk (below_step (by repeat (first | (with_reducible first | exact HB.out | apply below_alloc | apply pw_below_drewN | apply below_drew1) | exact HB.out)) hb); have n1_ := Aside0.mk (hbox); have n2_ := Aside0.mk ((by rw [hg]; exact (below_size (by repeat (first | (with_reducible first | exact HB.out | apply below_alloc | apply pw_below_drewN | apply below_drew1) | exact HB.out))) : w.heap.size ≤ gb255)); have n3_ := Aside0.mk ((by rw [hg]; exact (below_size (by repeat (first | (with_reducible first | exact HB.out | apply below_alloc | apply pw_below_drewN | apply below_drew1) | exact HB.out))) : w.heap.size ≤ gb255)); clear HB; have HB := n0_; have BK255 := n1_; have GW255 := n2_; have GE255 := n3_; clear n0_ n1_ n2_ n3_; clear hb hbox hg; have hcz10_0 : w9.cell? ⟨gb255, 0, none⟩ = some (.int .i64 0) := (blk_cell BK255.out 0).trans rfl; have hcz10_1 : w9.cell? ⟨gb255, 1, none⟩ = some (.int .i64 0) := (blk_cell BK255.out 1).trans rfl; have hcz10_2 : w9.cell? ⟨gb255, 2, none⟩ = some (.int .i64 0) := (blk_cell BK255.out 2).trans rfl; have hfz10_0 := blk_frozen BK255.out 0; have hfz10_1 := blk_frozen BK255.out 1; have hfz10_2 := blk_frozen BK255.out 2))
      (try simp only [Act.put, List.setIfInBounds_toArray, List.set_cons_zero, List.set_cons_succ])
      go_cut [59] (fun v59 wc => ∃ (kq : Nat) (x59_7 : Bool), v59 = .bool x59_7 ∧ Aside0 (glossatorref3_Proves.j1 kq l0 l1 a2 a3 x19_1 l1 (l1.length : Int) x19_1 x59_7 ((rd_T182 l1 x19_1).f0) ((rd_T182 l1 x19_1).f1) ((rd_T182 l1 x19_1).f2) = some r) ∧ Aside0 (kq ≤ k1) ∧ Aside0 (wc.heap[gb255]? = some (.cells #[.int .i64 ((rd_T182 l1 x19_1).f0), .int .i64 ((rd_T182 l1 x19_1).f1), .int .i64 ((rd_T182 l1 x19_1).f2)] 182 (0, 0))) ∧ Aside0 (Below w.heap.size w wc))
      case first =>
       have H := HC8.out
       clear HC8
       by_cases c11 : ((rd_T182 l1 x19_1).f0) < 0
       ·rw [if_pos c11] at H
        have c11b0 : decide (((rd_T182 l1 x19_1).f0) < 0) = true := decide_eq_true c11
        clear c11
        (first | rw [c11b0] | (simp only [i64_w, i32_w]; rw [c11b0]) | skip)
        have H' := Aside0.mk H
        clear H
        try go_wp2
        have n0_ : Aside0 ((((w9.setCell ⟨gb255, 0, none⟩ (.int .i64 ((rd_T182 l1 x19_1).f0))).setCell ⟨gb255, 1, none⟩ (.int .i64 ((rd_T182 l1 x19_1).f1))).setCell ⟨gb255, 2, none⟩ (.int .i64 ((rd_T182 l1 x19_1).f2))).heap[gb255]? = some (.cells #[.int .i64 ((rd_T182 l1 x19_1).f0), .int .i64 ((rd_T182 l1 x19_1).f1), .int .i64 ((rd_T182 l1 x19_1).f2)] 182 (0, 0))) := ⟨by (with_reducible repeat (first | refine blk_drewN ?_ _ | refine blk_drew ?_ | refine blk_alloc ?_ _)); refine blk_put (cs := #[.int .i64 ((rd_T182 l1 x19_1).f0), .int .i64 ((rd_T182 l1 x19_1).f1), .int .i64 0]) ?_ 2 _ rfl; (with_reducible repeat (first | refine blk_drewN ?_ _ | refine blk_drew ?_ | refine blk_alloc ?_ _)); refine blk_put (cs := #[.int .i64 ((rd_T182 l1 x19_1).f0), .int .i64 0, .int .i64 0]) ?_ 1 _ rfl; (with_reducible repeat (first | refine blk_drewN ?_ _ | refine blk_drew ?_ | refine blk_alloc ?_ _)); refine blk_put (cs := #[.int .i64 0, .int .i64 0, .int .i64 0]) ?_ 0 _ rfl; (with_reducible repeat (first | refine blk_drewN ?_ _ | refine blk_drew ?_ | refine blk_alloc ?_ _)); exact BK255.out⟩
        have n1_ : Aside0 (Below w.heap.size w (((w9.setCell ⟨gb255, 0, none⟩ (.int .i64 ((rd_T182 l1 x19_1).f0))).setCell ⟨gb255, 1, none⟩ (.int .i64 ((rd_T182 l1 x19_1).f1))).setCell ⟨gb255, 2, none⟩ (.int .i64 ((rd_T182 l1 x19_1).f2)))) := ⟨by repeat (first | (with_reducible first | exact HB.out | apply below_alloc | apply pw_below_drewN | apply below_drew1 | refine below_set ?_ GE255.out) | exact HB.out)⟩
        (try clear BK255)
        (try clear HB)
        generalize (((w9.setCell ⟨gb255, 0, none⟩ (.int .i64 ((rd_T182 l1 x19_1).f0))).setCell ⟨gb255, 1, none⟩ (.int .i64 ((rd_T182 l1 x19_1).f1))).setCell ⟨gb255, 2, none⟩ (.int .i64 ((rd_T182 l1 x19_1).f2))) = w12 at n0_ n1_ ⊢
        have BK255 := n0_
        have HB := n1_
        clear n0_ n1_
        have zq0 : w12.cell? ⟨gb255, 0, none⟩ = some (.int .i64 ((rd_T182 l1 x19_1).f0)) := (blk_cell BK255.out 0).trans rfl
        have zq1 : w12.cell? ⟨gb255, 1, none⟩ = some (.int .i64 ((rd_T182 l1 x19_1).f1)) := (blk_cell BK255.out 1).trans rfl
        have zq2 : w12.cell? ⟨gb255, 2, none⟩ = some (.int .i64 ((rd_T182 l1 x19_1).f2)) := (blk_cell BK255.out 2).trans rfl
        go_quiet (fail)
        try go_wp2
        go_meet
        case rel => exact ⟨_, (true), (by first | rfl | (simp; done) | (simp [*]; done) | (simp [isEmpty_bne]; done)), H', ⟨by have := HK1.out; first | omega | exact Nat.le_refl _⟩, ⟨by (with_reducible repeat (first | refine blk_drewN ?_ _ | refine blk_drew ?_ | refine blk_alloc ?_ _)); exact BK255.out⟩, ⟨by repeat (first | (with_reducible first | exact HB.out | apply below_alloc | apply pw_below_drewN | apply below_drew1 | refine below_set ?_ GE255.out) | exact HB.out)⟩⟩
       ·rw [if_neg c11] at H
        have c11b0 : decide (((rd_T182 l1 x19_1).f0) < 0) = false := decide_eq_false c11
        clear c11
        (first | rw [c11b0] | (simp only [i64_w, i32_w]; rw [c11b0]) | skip)
        by_cases c14 : ((rd_T182 l1 x19_1).f0) ≥ (l0.length : Int)
        ·rw [if_pos c14] at H
         have c14b0 : decide ((l0.length : Int) ≤ ((rd_T182 l1 x19_1).f0)) = true := decide_eq_true c14
         clear c14
         have H' := Aside0.mk H
         clear H
         try go_wp2
         have n0_ : Aside0 ((((w9.setCell ⟨gb255, 0, none⟩ (.int .i64 ((rd_T182 l1 x19_1).f0))).setCell ⟨gb255, 1, none⟩ (.int .i64 ((rd_T182 l1 x19_1).f1))).setCell ⟨gb255, 2, none⟩ (.int .i64 ((rd_T182 l1 x19_1).f2))).heap[gb255]? = some (.cells #[.int .i64 ((rd_T182 l1 x19_1).f0), .int .i64 ((rd_T182 l1 x19_1).f1), .int .i64 ((rd_T182 l1 x19_1).f2)] 182 (0, 0))) := ⟨by (with_reducible repeat (first | refine blk_drewN ?_ _ | refine blk_drew ?_ | refine blk_alloc ?_ _)); refine blk_put (cs := #[.int .i64 ((rd_T182 l1 x19_1).f0), .int .i64 ((rd_T182 l1 x19_1).f1), .int .i64 0]) ?_ 2 _ rfl; (with_reducible repeat (first | refine blk_drewN ?_ _ | refine blk_drew ?_ | refine blk_alloc ?_ _)); refine blk_put (cs := #[.int .i64 ((rd_T182 l1 x19_1).f0), .int .i64 0, .int .i64 0]) ?_ 1 _ rfl; (with_reducible repeat (first | refine blk_drewN ?_ _ | refine blk_drew ?_ | refine blk_alloc ?_ _)); refine blk_put (cs := #[.int .i64 0, .int .i64 0, .int .i64 0]) ?_ 0 _ rfl; (with_reducible repeat (first | refine blk_drewN ?_ _ | refine blk_drew ?_ | refine blk_alloc ?_ _)); exact BK255.out⟩
         have n1_ : Aside0 (Below w.heap.size w (((w9.setCell ⟨gb255, 0, none⟩ (.int .i64 ((rd_T182 l1 x19_1).f0))).setCell ⟨gb255, 1, none⟩ (.int .i64 ((rd_T182 l1 x19_1).f1))).setCell ⟨gb255, 2, none⟩ (.int .i64 ((rd_T182 l1 x19_1).f2)))) := ⟨by repeat (first | (with_reducible first | exact HB.out | apply below_alloc | apply pw_below_drewN | apply below_drew1 | refine below_set ?_ GE255.out) | exact HB.out)⟩
         (try clear BK255)
         (try clear HB)
         generalize (((w9.setCell ⟨gb255, 0, none⟩ (.int .i64 ((rd_T182 l1 x19_1).f0))).setCell ⟨gb255, 1, none⟩ (.int .i64 ((rd_T182 l1 x19_1).f1))).setCell ⟨gb255, 2, none⟩ (.int .i64 ((rd_T182 l1 x19_1).f2))) = w15 at n0_ n1_ ⊢
         have BK255 := n0_
         have HB := n1_
         clear n0_ n1_
         have zq0 : w15.cell? ⟨gb255, 0, none⟩ = some (.int .i64 ((rd_T182 l1 x19_1).f0)) := (blk_cell BK255.out 0).trans rfl
         have zq1 : w15.cell? ⟨gb255, 1, none⟩ = some (.int .i64 ((rd_T182 l1 x19_1).f1)) := (blk_cell BK255.out 1).trans rfl
         have zq2 : w15.cell? ⟨gb255, 2, none⟩ = some (.int .i64 ((rd_T182 l1 x19_1).f2)) := (blk_cell BK255.out 2).trans rfl
         go_quiet (fail)
         try go_wp2
         go_meet
         case rel => exact ⟨_, (true), (by first | rfl | (simp; done) | (simp [*]; done) | (simp [isEmpty_bne]; done)), H', ⟨by have := HK1.out; first | omega | exact Nat.le_refl _⟩, ⟨by (with_reducible repeat (first | refine blk_drewN ?_ _ | refine blk_drew ?_ | refine blk_alloc ?_ _)); exact BK255.out⟩, ⟨by repeat (first | (with_reducible first | exact HB.out | apply below_alloc | apply pw_below_drewN | apply below_drew1 | refine below_set ?_ GE255.out) | exact HB.out)⟩⟩
        ·rw [if_neg c14] at H
         have c14b0 : decide ((l0.length : Int) ≤ ((rd_T182 l1 x19_1).f0)) = false := decide_eq_false c14
         clear c14
         by_cases c17 : ((rd_T182 l1 x19_1).f2) < 0
         ·rw [if_pos c17] at H
          have c17b0 : decide (((rd_T182 l1 x19_1).f2) < 0) = true := decide_eq_true c17
          clear c17
          have H' := Aside0.mk H
          clear H
          try go_wp2
          have n0_ : Aside0 ((((w9.setCell ⟨gb255, 0, none⟩ (.int .i64 ((rd_T182 l1 x19_1).f0))).setCell ⟨gb255, 1, none⟩ (.int .i64 ((rd_T182 l1 x19_1).f1))).setCell ⟨gb255, 2, none⟩ (.int .i64 ((rd_T182 l1 x19_1).f2))).heap[gb255]? = some (.cells #[.int .i64 ((rd_T182 l1 x19_1).f0), .int .i64 ((rd_T182 l1 x19_1).f1), .int .i64 ((rd_T182 l1 x19_1).f2)] 182 (0, 0))) := ⟨by (with_reducible repeat (first | refine blk_drewN ?_ _ | refine blk_drew ?_ | refine blk_alloc ?_ _)); refine blk_put (cs := #[.int .i64 ((rd_T182 l1 x19_1).f0), .int .i64 ((rd_T182 l1 x19_1).f1), .int .i64 0]) ?_ 2 _ rfl; (with_reducible repeat (first | refine blk_drewN ?_ _ | refine blk_drew ?_ | refine blk_alloc ?_ _)); refine blk_put (cs := #[.int .i64 ((rd_T182 l1 x19_1).f0), .int .i64 0, .int .i64 0]) ?_ 1 _ rfl; (with_reducible repeat (first | refine blk_drewN ?_ _ | refine blk_drew ?_ | refine blk_alloc ?_ _)); refine blk_put (cs := #[.int .i64 0, .int .i64 0, .int .i64 0]) ?_ 0 _ rfl; (with_reducible repeat (first | refine blk_drewN ?_ _ | refine blk_drew ?_ | refine blk_alloc ?_ _)); exact BK255.out⟩
          have n1_ : Aside0 (Below w.heap.size w (((w9.setCell ⟨gb255, 0, none⟩ (.int .i64 ((rd_T182 l1 x19_1).f0))).setCell ⟨gb255, 1, none⟩ (.int .i64 ((rd_T182 l1 x19_1).f1))).setCell ⟨gb255, 2, none⟩ (.int .i64 ((rd_T182 l1 x19_1).f2)))) := ⟨by repeat (first | (with_reducible first | exact HB.out | apply below_alloc | apply pw_below_drewN | apply below_drew1 | refine below_set ?_ GE255.out) | exact HB.out)⟩
          (try clear BK255)
          (try clear HB)
          generalize (((w9.setCell ⟨gb255, 0, none⟩ (.int .i64 ((rd_T182 l1 x19_1).f0))).setCell ⟨gb255, 1, none⟩ (.int .i64 ((rd_T182 l1 x19_1).f1))).setCell ⟨gb255, 2, none⟩ (.int .i64 ((rd_T182 l1 x19_1).f2))) = w18 at n0_ n1_ ⊢
          have BK255 := n0_
          have HB := n1_
          clear n0_ n1_
          have zq0 : w18.cell? ⟨gb255, 0, none⟩ = some (.int .i64 ((rd_T182 l1 x19_1).f0)) := (blk_cell BK255.out 0).trans rfl
          have zq1 : w18.cell? ⟨gb255, 1, none⟩ = some (.int .i64 ((rd_T182 l1 x19_1).f1)) := (blk_cell BK255.out 1).trans rfl
          have zq2 : w18.cell? ⟨gb255, 2, none⟩ = some (.int .i64 ((rd_T182 l1 x19_1).f2)) := (blk_cell BK255.out 2).trans rfl
          go_quiet (fail)
          try go_wp2
          go_meet
          case rel => exact ⟨_, (true), (by first | rfl | (simp; done) | (simp [*]; done) | (simp [isEmpty_bne]; done)), H', ⟨by have := HK1.out; first | omega | exact Nat.le_refl _⟩, ⟨by (with_reducible repeat (first | refine blk_drewN ?_ _ | refine blk_drew ?_ | refine blk_alloc ?_ _)); exact BK255.out⟩, ⟨by repeat (first | (with_reducible first | exact HB.out | apply below_alloc | apply pw_below_drewN | apply below_drew1 | refine below_set ?_ GE255.out) | exact HB.out)⟩⟩
         ·rw [if_neg c17] at H
          have c17b0 : decide (((rd_T182 l1 x19_1).f2) < 0) = false := decide_eq_false c17
          clear c17
          by_cases c20 : ((rd_T182 l1 x19_1).f2) ≥ 20
          ·rw [if_pos c20] at H
           have c20b0 : decide (20 ≤ ((rd_T182 l1 x19_1).f2)) = true := decide_eq_true c20
           clear c20
           have H' := Aside0.mk H
           clear H
           try go_wp2
           have n0_ : Aside0 ((((w9.setCell ⟨gb255, 0, none⟩ (.int .i64 ((rd_T182 l1 x19_1).f0))).setCell ⟨gb255, 1, none⟩ (.int .i64 ((rd_T182 l1 x19_1).f1))).setCell ⟨gb255, 2, none⟩ (.int .i64 ((rd_T182 l1 x19_1).f2))).heap[gb255]? = some (.cells #[.int .i64 ((rd_T182 l1 x19_1).f0), .int .i64 ((rd_T182 l1 x19_1).f1), .int .i64 ((rd_T182 l1 x19_1).f2)] 182 (0, 0))) := ⟨by (with_reducible repeat (first | refine blk_drewN ?_ _ | refine blk_drew ?_ | refine blk_alloc ?_ _)); refine blk_put (cs := #[.int .i64 ((rd_T182 l1 x19_1).f0), .int .i64 ((rd_T182 l1 x19_1).f1), .int .i64 0]) ?_ 2 _ rfl; (with_reducible repeat (first | refine blk_drewN ?_ _ | refine blk_drew ?_ | refine blk_alloc ?_ _)); refine blk_put (cs := #[.int .i64 ((rd_T182 l1 x19_1).f0), .int .i64 0, .int .i64 0]) ?_ 1 _ rfl; (with_reducible repeat (first | refine blk_drewN ?_ _ | refine blk_drew ?_ | refine blk_alloc ?_ _)); refine blk_put (cs := #[.int .i64 0, .int .i64 0, .int .i64 0]) ?_ 0 _ rfl; (with_reducible repeat (first | refine blk_drewN ?_ _ | refine blk_drew ?_ | refine blk_alloc ?_ _)); exact BK255.out⟩
           have n1_ : Aside0 (Below w.heap.size w (((w9.setCell ⟨gb255, 0, none⟩ (.int .i64 ((rd_T182 l1 x19_1).f0))).setCell ⟨gb255, 1, none⟩ (.int .i64 ((rd_T182 l1 x19_1).f1))).setCell ⟨gb255, 2, none⟩ (.int .i64 ((rd_T182 l1 x19_1).f2)))) := ⟨by repeat (first | (with_reducible first | exact HB.out | apply below_alloc | apply pw_below_drewN | apply below_drew1 | refine below_set ?_ GE255.out) | exact HB.out)⟩
           (try clear BK255)
           (try clear HB)
           generalize (((w9.setCell ⟨gb255, 0, none⟩ (.int .i64 ((rd_T182 l1 x19_1).f0))).setCell ⟨gb255, 1, none⟩ (.int .i64 ((rd_T182 l1 x19_1).f1))).setCell ⟨gb255, 2, none⟩ (.int .i64 ((rd_T182 l1 x19_1).f2))) = w21 at n0_ n1_ ⊢
           have BK255 := n0_
           have HB := n1_
           clear n0_ n1_
           have zq0 : w21.cell? ⟨gb255, 0, none⟩ = some (.int .i64 ((rd_T182 l1 x19_1).f0)) := (blk_cell BK255.out 0).trans rfl
           have zq1 : w21.cell? ⟨gb255, 1, none⟩ = some (.int .i64 ((rd_T182 l1 x19_1).f1)) := (blk_cell BK255.out 1).trans rfl
           have zq2 : w21.cell? ⟨gb255, 2, none⟩ = some (.int .i64 ((rd_T182 l1 x19_1).f2)) := (blk_cell BK255.out 2).trans rfl
           go_quiet (fail)
           try go_wp2
           go_meet
           case rel => exact ⟨_, (true), (by first | rfl | (simp; done) | (simp [*]; done) | (simp [isEmpty_bne]; done)), H', ⟨by have := HK1.out; first | omega | exact Nat.le_refl _⟩, ⟨by (with_reducible repeat (first | refine blk_drewN ?_ _ | refine blk_drew ?_ | refine blk_alloc ?_ _)); exact BK255.out⟩, ⟨by repeat (first | (with_reducible first | exact HB.out | apply below_alloc | apply pw_below_drewN | apply below_drew1 | refine below_set ?_ GE255.out) | exact HB.out)⟩⟩
          ·rw [if_neg c20] at H
           have c20b0 : decide (20 ≤ ((rd_T182 l1 x19_1).f2)) = false := decide_eq_false c20
           clear c20
           by_cases c23 : ((rd_T182 l1 x19_1).f1) < 0
           ·rw [if_pos c23] at H
            have c23b0 : decide (((rd_T182 l1 x19_1).f1) < 0) = true := decide_eq_true c23
            clear c23
            have H' := Aside0.mk H
            clear H
            try go_wp2
            have n0_ : Aside0 ((((w9.setCell ⟨gb255, 0, none⟩ (.int .i64 ((rd_T182 l1 x19_1).f0))).setCell ⟨gb255, 1, none⟩ (.int .i64 ((rd_T182 l1 x19_1).f1))).setCell ⟨gb255, 2, none⟩ (.int .i64 ((rd_T182 l1 x19_1).f2))).heap[gb255]? = some (.cells #[.int .i64 ((rd_T182 l1 x19_1).f0), .int .i64 ((rd_T182 l1 x19_1).f1), .int .i64 ((rd_T182 l1 x19_1).f2)] 182 (0, 0))) := ⟨by (with_reducible repeat (first | refine blk_drewN ?_ _ | refine blk_drew ?_ | refine blk_alloc ?_ _)); refine blk_put (cs := #[.int .i64 ((rd_T182 l1 x19_1).f0), .int .i64 ((rd_T182 l1 x19_1).f1), .int .i64 0]) ?_ 2 _ rfl; (with_reducible repeat (first | refine blk_drewN ?_ _ | refine blk_drew ?_ | refine blk_alloc ?_ _)); refine blk_put (cs := #[.int .i64 ((rd_T182 l1 x19_1).f0), .int .i64 0, .int .i64 0]) ?_ 1 _ rfl; (with_reducible repeat (first | refine blk_drewN ?_ _ | refine blk_drew ?_ | refine blk_alloc ?_ _)); refine blk_put (cs := #[.int .i64 0, .int .i64 0, .int .i64 0]) ?_ 0 _ rfl; (with_reducible repeat (first | refine blk_drewN ?_ _ | refine blk_drew ?_ | refine blk_alloc ?_ _)); exact BK255.out⟩
            have n1_ : Aside0 (Below w.heap.size w (((w9.setCell ⟨gb255, 0, none⟩ (.int .i64 ((rd_T182 l1 x19_1).f0))).setCell ⟨gb255, 1, none⟩ (.int .i64 ((rd_T182 l1 x19_1).f1))).setCell ⟨gb255, 2, none⟩ (.int .i64 ((rd_T182 l1 x19_1).f2)))) := ⟨by repeat (first | (with_reducible first | exact HB.out | apply below_alloc | apply pw_below_drewN | apply below_drew1 | refine below_set ?_ GE255.out) | exact HB.out)⟩
            (try clear BK255)
            (try clear HB)
            generalize (((w9.setCell ⟨gb255, 0, none⟩ (.int .i64 ((rd_T182 l1 x19_1).f0))).setCell ⟨gb255, 1, none⟩ (.int .i64 ((rd_T182 l1 x19_1).f1))).setCell ⟨gb255, 2, none⟩ (.int .i64 ((rd_T182 l1 x19_1).f2))) = w24 at n0_ n1_ ⊢
            have BK255 := n0_
            have HB := n1_
            clear n0_ n1_
            have zq0 : w24.cell? ⟨gb255, 0, none⟩ = some (.int .i64 ((rd_T182 l1 x19_1).f0)) := (blk_cell BK255.out 0).trans rfl
            have zq1 : w24.cell? ⟨gb255, 1, none⟩ = some (.int .i64 ((rd_T182 l1 x19_1).f1)) := (blk_cell BK255.out 1).trans rfl
            have zq2 : w24.cell? ⟨gb255, 2, none⟩ = some (.int .i64 ((rd_T182 l1 x19_1).f2)) := (blk_cell BK255.out 2).trans rfl
            go_quiet (fail)
            try go_wp2
            go_meet
            case rel => exact ⟨_, (true), (by first | rfl | (simp; done) | (simp [*]; done) | (simp [isEmpty_bne]; done)), H', ⟨by have := HK1.out; first | omega | exact Nat.le_refl _⟩, ⟨by (with_reducible repeat (first | refine blk_drewN ?_ _ | refine blk_drew ?_ | refine blk_alloc ?_ _)); exact BK255.out⟩, ⟨by repeat (first | (with_reducible first | exact HB.out | apply below_alloc | apply pw_below_drewN | apply below_drew1 | refine below_set ?_ GE255.out) | exact HB.out)⟩⟩
           ·rw [if_neg c23] at H
            have c23b0 : decide (((rd_T182 l1 x19_1).f1) < 0) = false := decide_eq_false c23
            clear c23
            by_cases c26 : 0 ≤ ((rd_T182 l1 x19_1).f0)
            ·rw [if_pos c26] at H
             have c26b0 : decide (0 ≤ ((rd_T182 l1 x19_1).f0)) = true := decide_eq_true c26
             clear c26
             by_cases c27 : ((rd_T182 l1 x19_1).f0) < (l0.length : Int)
             ·rw [if_pos c27] at H
              have c27b0 : decide (((rd_T182 l1 x19_1).f0) < (l0.length : Int)) = true := decide_eq_true c27
              clear c27
              have H' := Aside0.mk H
              clear H
              try go_wp2
              have n0_ : Aside0 ((((w9.setCell ⟨gb255, 0, none⟩ (.int .i64 ((rd_T182 l1 x19_1).f0))).setCell ⟨gb255, 1, none⟩ (.int .i64 ((rd_T182 l1 x19_1).f1))).setCell ⟨gb255, 2, none⟩ (.int .i64 ((rd_T182 l1 x19_1).f2))).heap[gb255]? = some (.cells #[.int .i64 ((rd_T182 l1 x19_1).f0), .int .i64 ((rd_T182 l1 x19_1).f1), .int .i64 ((rd_T182 l1 x19_1).f2)] 182 (0, 0))) := ⟨by (with_reducible repeat (first | refine blk_drewN ?_ _ | refine blk_drew ?_ | refine blk_alloc ?_ _)); refine blk_put (cs := #[.int .i64 ((rd_T182 l1 x19_1).f0), .int .i64 ((rd_T182 l1 x19_1).f1), .int .i64 0]) ?_ 2 _ rfl; (with_reducible repeat (first | refine blk_drewN ?_ _ | refine blk_drew ?_ | refine blk_alloc ?_ _)); refine blk_put (cs := #[.int .i64 ((rd_T182 l1 x19_1).f0), .int .i64 0, .int .i64 0]) ?_ 1 _ rfl; (with_reducible repeat (first | refine blk_drewN ?_ _ | refine blk_drew ?_ | refine blk_alloc ?_ _)); refine blk_put (cs := #[.int .i64 0, .int .i64 0, .int .i64 0]) ?_ 0 _ rfl; (with_reducible repeat (first | refine blk_drewN ?_ _ | refine blk_drew ?_ | refine blk_alloc ?_ _)); exact BK255.out⟩
              have n1_ : Aside0 (Below w.heap.size w (((w9.setCell ⟨gb255, 0, none⟩ (.int .i64 ((rd_T182 l1 x19_1).f0))).setCell ⟨gb255, 1, none⟩ (.int .i64 ((rd_T182 l1 x19_1).f1))).setCell ⟨gb255, 2, none⟩ (.int .i64 ((rd_T182 l1 x19_1).f2)))) := ⟨by repeat (first | (with_reducible first | exact HB.out | apply below_alloc | apply pw_below_drewN | apply below_drew1 | refine below_set ?_ GE255.out) | exact HB.out)⟩
              (try clear BK255)
              (try clear HB)
              generalize (((w9.setCell ⟨gb255, 0, none⟩ (.int .i64 ((rd_T182 l1 x19_1).f0))).setCell ⟨gb255, 1, none⟩ (.int .i64 ((rd_T182 l1 x19_1).f1))).setCell ⟨gb255, 2, none⟩ (.int .i64 ((rd_T182 l1 x19_1).f2))) = w28 at n0_ n1_ ⊢
              have BK255 := n0_
              have HB := n1_
              clear n0_ n1_
              have p256 : 0 ≤ (((rd_T182 l1 x19_1).f0) : Int) := of_decide_eq_true (by first | (with_reducible assumption) | assumption)
              have q256 : ((rd_T182 l1 x19_1).f0) < (l0.length : Int) := of_decide_eq_true (by first | (with_reducible assumption) | assumption)
              obtain ⟨ad256, A256_0, c256_0, e256, hx256_0, hl256_0, hi256_0⟩ := at_L3 HR0.out ((rd_T182 l1 x19_1).f0) p256 q256
              have hw256_0 := hx256_0
              cases e256
              replace hx256_0 := (HB.out.cell (World.block_lt_of_cell? w _ hx256_0)).trans hx256_0
              have HR256_0 := Aside0.mk hi256_0
              have HC256_0 := Aside0.mk hl256_0
              clear hi256_0 hl256_0
              replace p256 := eq_true p256
              replace q256 := eq_true q256
              have zq0 : w28.cell? ⟨gb255, 0, none⟩ = some (.int .i64 ((rd_T182 l1 x19_1).f0)) := (blk_cell BK255.out 0).trans rfl
              have zq1 : w28.cell? ⟨gb255, 1, none⟩ = some (.int .i64 ((rd_T182 l1 x19_1).f1)) := (blk_cell BK255.out 1).trans rfl
              have zq2 : w28.cell? ⟨gb255, 2, none⟩ = some (.int .i64 ((rd_T182 l1 x19_1).f2)) := (blk_cell BK255.out 2).trans rfl
              have zq3 : w28.cell? (ad256.add (((rd_T182 l1 x19_1).f0)).toNat) = some (.slice A256_0 (rd_L3 l0 ((rd_T182 l1 x19_1).f0)).length c256_0) := ((HB.out.cell (World.block_lt_of_cell? w _ hw256_0)).trans hw256_0)
              go_quiet (fail)
              try go_wp2
              go_meet
              case rel => exact ⟨_, (decide (((rd_T182 l1 x19_1).f1) ≥ ((rd_L3 l0 ((rd_T182 l1 x19_1).f0)).length : Int))), (by first | rfl | (simp; done) | (simp [*]; done) | (simp [isEmpty_bne]; done)), H', ⟨by have := HK1.out; first | omega | exact Nat.le_refl _⟩, ⟨by (with_reducible repeat (first | refine blk_drewN ?_ _ | refine blk_drew ?_ | refine blk_alloc ?_ _)); exact BK255.out⟩, ⟨by repeat (first | (with_reducible first | exact HB.out | apply below_alloc | apply pw_below_drewN | apply below_drew1 | refine below_set ?_ GE255.out) | exact HB.out)⟩⟩
             ·rw [if_neg c27] at H
              exact absurd H (by simp)
            ·rw [if_neg c26] at H
             exact absurd H (by simp)
      case rest =>
       clear HC8
       try clear c2
       try clear p2
       try clear q2
       try clear hx2
       try clear c23
       try clear c23b0
       try clear c25
       try clear p25
       try clear q25
       try clear hx25
       try clear c26
       try clear c26b0
       try clear c27
       try clear c27b0
       try clear hx256_0
       try clear p256
       try clear q256
       obtain ⟨kq, x59_7, rfl, HA, HJ7, BK255, HB⟩ := hcut
       cases kq with
       | zero => exact absurd HA.out (by simp [glossatorref3_Proves.j1])
       | succ kj7 =>
        have H := HA.out
        clear HA
        simp only [glossatorref3_Proves.j1] at H
        by_cases c30 : x59_7 = true
        ·subst c30
         have H1 : (some false) = some r := by rw [if_pos rfl] at H; exact H
         clear H
         have H := H1
         clear H1
         obtain rfl := Option.some.inj H
         go_wp2
         go_ret
         exact ⟨by first | rfl | (simp [errW_none, errW_some] <;> rfl) | (simp [*, errW_none, errW_some] <;> rfl), by repeat (first | (with_reducible first | exact HB.out | apply below_alloc | apply pw_below_drewN | apply below_drew1 | refine below_set ?_ GE255.out) | exact HB.out)⟩
        ·replace c30 := Bool.eq_false_iff.mpr c30
         subst c30
         have H1 : (if 0 ≤ ((rd_T182 l1 x19_1).f0) then (if ((rd_T182 l1 x19_1).f0) < (l0.length : Int) then (if 0 ≤ ((rd_T182 l1 x19_1).f1) then (if ((rd_T182 l1 x19_1).f1) < ((rd_L3 l0 ((rd_T182 l1 x19_1).f0)).length : Int) then (if 0 ≤ ((rd_T182 l1 x19_1).f2) then (if (Go.bits .and .i64 ((rd_T58 (rd_L3 l0 ((rd_T182 l1 x19_1).f0)) ((rd_T182 l1 x19_1).f1)).f0) (shl .i64 1 ((rd_T182 l1 x19_1).f2))) = 0 then (some false) else (glossatorref3_Proves.l1 kj7 l0 l1 a2 a3 x19_1 l1 (l1.length : Int) x19_1 ((rd_T58 (rd_L3 l0 ((rd_T182 l1 x19_1).f0)) ((rd_T182 l1 x19_1).f1)).f1) (((rd_T58 (rd_L3 l0 ((rd_T182 l1 x19_1).f0)) ((rd_T182 l1 x19_1).f1)).f1).length : Int) 0 ((rd_T182 l1 x19_1).f0) ((rd_T182 l1 x19_1).f1) ((rd_T182 l1 x19_1).f2))) else (none)) else (none)) else (none)) else (none)) else (none)) = some r := by rw [if_neg (show ¬ (false = true) by decide)] at H; exact H
         clear H
         have H := H1
         clear H1
         by_cases c31 : 0 ≤ ((rd_T182 l1 x19_1).f0)
         ·rw [if_pos c31] at H
          have c31b0 : decide (0 ≤ ((rd_T182 l1 x19_1).f0)) = true := decide_eq_true c31
          clear c31
          by_cases c32 : ((rd_T182 l1 x19_1).f0) < (l0.length : Int)
          ·rw [if_pos c32] at H
           have c32b0 : decide (((rd_T182 l1 x19_1).f0) < (l0.length : Int)) = true := decide_eq_true c32
           clear c32
           by_cases c33 : 0 ≤ ((rd_T182 l1 x19_1).f1)
           ·rw [if_pos c33] at H
            have c33b0 : decide (0 ≤ ((rd_T182 l1 x19_1).f1)) = true := decide_eq_true c33
            clear c33
            by_cases c34 : ((rd_T182 l1 x19_1).f1) < ((rd_L3 l0 ((rd_T182 l1 x19_1).f0)).length : Int)
            ·rw [if_pos c34] at H
             have c34b0 : decide (((rd_T182 l1 x19_1).f1) < ((rd_L3 l0 ((rd_T182 l1 x19_1).f0)).length : Int)) = true := decide_eq_true c34
             clear c34
             by_cases c35 : 0 ≤ ((rd_T182 l1 x19_1).f2)
             ·rw [if_pos c35] at H
              have c35b0 := eq_true c35
              have c35b1 : decide (0 ≤ ((rd_T182 l1 x19_1).f2)) = true := decide_eq_true c35
              clear c35
              obtain ⟨ji36, hji36⟩ : ∃ j_ : Int, (shl .i64 1 ((rd_T182 l1 x19_1).f2)) = j_ := ⟨_, rfl⟩
              replace H : (if (Go.bits .and .i64 ((rd_T58 (rd_L3 l0 ((rd_T182 l1 x19_1).f0)) ((rd_T182 l1 x19_1).f1)).f0) (ji36)) = 0 then (some false) else (glossatorref3_Proves.l1 kj7 l0 l1 a2 a3 x19_1 l1 (l1.length : Int) x19_1 ((rd_T58 (rd_L3 l0 ((rd_T182 l1 x19_1).f0)) ((rd_T182 l1 x19_1).f1)).f1) (((rd_T58 (rd_L3 l0 ((rd_T182 l1 x19_1).f0)) ((rd_T182 l1 x19_1).f1)).f1).length : Int) 0 ((rd_T182 l1 x19_1).f0) ((rd_T182 l1 x19_1).f1) ((rd_T182 l1 x19_1).f2))) = some r := by first | (rw [hji36] at H; exact H) | (simp only [hji36] at H ⊢; exact H)
              have hji36_ : (IntKind.i64.wrap (1 * 2 ^ min ((rd_T182 l1 x19_1).f2).toNat 64)) = ji36 := hji36
              have hji36z : ((rd_T182 l1 x19_1).f2) ≤ 64 → (IntKind.i64.wrap (1 * 2 ^ ((rd_T182 l1 x19_1).f2).toNat)) = ji36 := shl_small hji36
              have hji36u : (IntKind.i64.wrap (2 ^ min ((rd_T182 l1 x19_1).f2).toNat 64)) = ji36 := by have h_ := hji36_; rw [Int.one_mul] at h_; exact h_
              have hji36v : ((rd_T182 l1 x19_1).f2) ≤ 64 → (IntKind.i64.wrap (2 ^ ((rd_T182 l1 x19_1).f2).toNat)) = ji36 := fun hle_ => by have h_ := hji36z hle_; rw [Int.one_mul] at h_; exact h_
              have hji36y : (wrap64 (1 * 2 ^ min ((rd_T182 l1 x19_1).f2).toNat 64)) = ji36 := (i64_w _).symm.trans hji36_
              have hji36x : ((rd_T182 l1 x19_1).f2) ≤ 64 → (wrap64 (1 * 2 ^ ((rd_T182 l1 x19_1).f2).toNat)) = ji36 := fun h_ => (i64_w _).symm.trans (hji36z h_)
              by_cases c37 : (Go.bits .and .i64 ((rd_T58 (rd_L3 l0 ((rd_T182 l1 x19_1).f0)) ((rd_T182 l1 x19_1).f1)).f0) (ji36)) = 0
              ·rw [if_pos c37] at H
               have c37b0 : ((Go.bits .and .i64 ((rd_T58 (rd_L3 l0 ((rd_T182 l1 x19_1).f0)) ((rd_T182 l1 x19_1).f1)).f0) (ji36)) == 0) = true := beq_iff_eq.mpr c37
               have c37b1 : ((Go.bits .and .i64 ((rd_T58 (rd_L3 l0 ((rd_T182 l1 x19_1).f0)) ((rd_T182 l1 x19_1).f1)).f0) (ji36)) != 0) = false := bne_eq_false_iff_eq.mpr c37
               clear c37
               obtain rfl := Option.some.inj H
               try go_wp2
               have n0_ := Aside0.mk (blk_drew BK255.out)
               have n1_ := Aside0.mk (below_drew1 HB.out)
               clear BK255
               clear HB
               have BK255 := n0_
               have HB := n1_
               clear n0_ n1_
               have p257 : 0 ≤ (((rd_T182 l1 x19_1).f0) : Int) := of_decide_eq_true (by first | (with_reducible assumption) | assumption)
               have q257 : ((rd_T182 l1 x19_1).f0) < (l0.length : Int) := of_decide_eq_true (by first | (with_reducible assumption) | assumption)
               obtain ⟨ad257, A257_0, c257_0, e257, hx257_0, hl257_0, hi257_0⟩ := at_L3 HR0.out ((rd_T182 l1 x19_1).f0) p257 q257
               have hw257_0 := hx257_0
               cases e257
               replace hx257_0 := (HB.out.cell (World.block_lt_of_cell? w _ hx257_0)).trans hx257_0
               have HR257_0 := Aside0.mk hi257_0
               have HC257_0 := Aside0.mk hl257_0
               clear hi257_0 hl257_0
               replace p257 := eq_true p257
               replace q257 := eq_true q257
               have p258 : 0 ≤ (((rd_T182 l1 x19_1).f1) : Int) := of_decide_eq_true (by first | (with_reducible assumption) | assumption)
               have q258 : ((rd_T182 l1 x19_1).f1) < ((rd_L3 l0 ((rd_T182 l1 x19_1).f0)).length : Int) := of_decide_eq_true (by first | (with_reducible assumption) | assumption)
               obtain ⟨ad258, A258_1, c258_1, e258, hx258_0, hx258_1, hl258_1, hi258_1⟩ := at_T58 HR257_0.out ((rd_T182 l1 x19_1).f1) p258 q258
               have hw258_1 := hx258_1
               have hw258_0 := hx258_0
               cases e258
               replace hx258_0 := (HB.out.cell (World.block_lt_of_cell? w _ hx258_0)).trans hx258_0
               replace hx258_1 := (HB.out.cell (World.block_lt_of_cell? w _ hx258_1)).trans hx258_1
               have HR258_1 := Aside0.mk hi258_1
               have HC258_1 := Aside0.mk hl258_1
               clear hi258_1 hl258_1
               replace p258 := eq_true p258
               replace q258 := eq_true q258
               refine start_ (n := 11) (S := fun w' => w'.cell? ⟨gb255, 0, none⟩ = some (.int .i64 ((rd_T182 l1 x19_1).f0)) ∧ w'.cell? ⟨gb255, 1, none⟩ = some (.int .i64 ((rd_T182 l1 x19_1).f1)) ∧ w'.cell? ⟨gb255, 2, none⟩ = some (.int .i64 ((rd_T182 l1 x19_1).f2)) ∧ w'.cell? (ad257.add (((rd_T182 l1 x19_1).f0)).toNat) = some (.slice (some ad258) (rd_L3 l0 ((rd_T182 l1 x19_1).f0)).length c257_0) ∧ w'.cell? (ad258.add ((((rd_T182 l1 x19_1).f1)).toNat * 2)) = some (.int .i64 ((rd_T58 (rd_L3 l0 ((rd_T182 l1 x19_1).f0)) ((rd_T182 l1 x19_1).f1)).f0)) ∧ w'.cell? ⟨(ad258.add ((((rd_T182 l1 x19_1).f1)).toNat * 2)).block, (ad258.add ((((rd_T182 l1 x19_1).f1)).toNat * 2)).off + 1, none⟩ = some (.slice A258_1 ((rd_T58 (rd_L3 l0 ((rd_T182 l1 x19_1).f0)) ((rd_T182 l1 x19_1).f1)).f1).length c258_1)) (ds := []) #[false, false, false, false, false, false, false, false, false, false, false] (by kernel_rfl) rfl rfl ⟨(blk_cell BK255.out 0).trans rfl, (blk_cell BK255.out 1).trans rfl, (blk_cell BK255.out 2).trans rfl, ((HB.out.cell (World.block_lt_of_cell? w _ hw257_0)).trans hw257_0), ((HB.out.cell (World.block_lt_of_cell? w _ hw258_0)).trans hw258_0), ((HB.out.cell (World.block_lt_of_cell? w _ hw258_1)).trans hw258_1)⟩ (fun hHeld => ?_); refine with_tabW glossatorref3_Proves.tab6 glossatorref3_Proves.bits6 (fun HT_ HW_ => ?_)
               generalize wc.drew = w38 at BK255 HB HR257_0 HR258_1 hx257_0 hx258_0 hx258_1 hHeld ⊢
               refine pure_ (i := 0) (N := some 60) (v := ?_) (a' := ?_) #[true, false, false, false, false, false, false, false, false, false, false] rfl rfl (any_of HT_.out (by kernel_rfl)) (fun _ _ _ h => h) (Or.inl ⟨by rfl, ?_⟩) ?_ ?_
               rotate_left
               ·intro w'
                go_simp
                with_reducible rfl
               rotate_left
               ·simp only [Act.put, List.setIfInBounds_toArray, List.set_cons_zero, List.set_cons_succ, i64_w, i32_w]
                rfl
               refine pure_ (i := 1) (N := some 61) (v := ?_) (a' := ?_) #[true, true, false, false, false, false, false, false, false, false, false] rfl rfl (any_of HT_.out (by kernel_rfl)) (fun _ _ _ h => h) (Or.inl ⟨by rfl, ?_⟩) ?_ ?_
               rotate_left
               ·intro w'
                go_simp
                with_reducible rfl
               rotate_left
               ·simp only [Act.put, List.setIfInBounds_toArray, List.set_cons_zero, List.set_cons_succ, i64_w, i32_w]
                rfl
               refine pure_ (i := 5) (N := some 65) (v := ?_) (a' := ?_) #[true, true, false, false, false, true, false, false, false, false, false] rfl rfl (any_of HT_.out (by kernel_rfl)) (fun _ _ _ h => h) (Or.inl ⟨by rfl, ?_⟩) ?_ ?_
               rotate_left
               ·intro w'
                go_simp
                with_reducible rfl
               rotate_left
               ·simp only [Act.put, List.setIfInBounds_toArray, List.set_cons_zero, List.set_cons_succ, i64_w, i32_w]
                rfl
               refine take_ (i := 2) (N := some 62) (v := ?_) (a' := ?_) #[true, true, true, false, false, true, false, false, false, false, false] rfl rfl (take_ofW HT_.out HW_.out (by kernel_rfl)) (fun _ _ _ h => h) (Or.inl ⟨by rfl, ?_⟩) hHeld ?_ ?_
               rotate_left
               ·rintro w' ⟨s0, s1, s2, s3, s4, s5⟩
                go_simp
                with_reducible rfl
               rotate_left
               ·simp only [Act.put, List.setIfInBounds_toArray, List.set_cons_zero, List.set_cons_succ, i64_w, i32_w]
                rfl
               refine pure_ (i := 3) (N := some 63) (v := ?_) (a' := ?_) #[true, true, true, true, false, true, false, false, false, false, false] rfl rfl (any_of HT_.out (by kernel_rfl)) (fun _ _ _ h => h) (Or.inl ⟨by rfl, ?_⟩) ?_ ?_
               rotate_left
               ·intro w'
                go_simp
                with_reducible rfl
               rotate_left
               ·simp only [Act.put, List.setIfInBounds_toArray, List.set_cons_zero, List.set_cons_succ, i64_w, i32_w]
                rfl
               refine take_ (i := 4) (N := some 64) (v := ?_) (a' := ?_) #[true, true, true, true, true, true, false, false, false, false, false] rfl rfl (take_ofW HT_.out HW_.out (by kernel_rfl)) (fun _ _ _ h => h) (Or.inl ⟨by rfl, ?_⟩) hHeld ?_ ?_
               rotate_left
               ·rintro w' ⟨s0, s1, s2, s3, s4, s5⟩
                go_simp
                with_reducible rfl
               rotate_left
               ·simp only [Act.put, List.setIfInBounds_toArray, List.set_cons_zero, List.set_cons_succ, i64_w, i32_w]
                rfl
               refine take_ (i := 6) (N := some 66) (v := ?_) (a' := ?_) #[true, true, true, true, true, true, true, false, false, false, false] rfl rfl (take_ofW HT_.out HW_.out (by kernel_rfl)) (fun _ _ _ h => h) (Or.inl ⟨by rfl, ?_⟩) hHeld ?_ ?_
               rotate_left
               ·rintro w' ⟨s0, s1, s2, s3, s4, s5⟩
                go_simp
                with_reducible rfl
               rotate_left
               ·simp only [Act.put, List.setIfInBounds_toArray, List.set_cons_zero, List.set_cons_succ, i64_w, i32_w]
                rfl
               refine pure_ (i := 7) (N := some 67) (v := ?_) (a' := ?_) #[true, true, true, true, true, true, true, true, false, false, false] rfl rfl (any_of HT_.out (by kernel_rfl)) (fun _ _ _ h => h) (Or.inl ⟨by rfl, ?_⟩) ?_ ?_
               rotate_left
               ·intro w'
                go_simp
                with_reducible rfl
               rotate_left
               ·simp only [Act.put, List.setIfInBounds_toArray, List.set_cons_zero, List.set_cons_succ, i64_w, i32_w]
                rfl
               refine take_ (i := 8) (N := some 68) (v := ?_) (a' := ?_) #[true, true, true, true, true, true, true, true, true, false, false] rfl rfl (take_ofW HT_.out HW_.out (by kernel_rfl)) (fun _ _ _ h => h) (Or.inl ⟨by rfl, ?_⟩) hHeld ?_ ?_
               rotate_left
               ·rintro w' ⟨s0, s1, s2, s3, s4, s5⟩
                go_simp
                with_reducible rfl
               rotate_left
               ·simp only [Act.put, List.setIfInBounds_toArray, List.set_cons_zero, List.set_cons_succ, i64_w, i32_w]
                rfl
               refine one_ (i := 9) (N := some 11) #[true, true, true, true, true, true, true, true, true, true, false] rfl rfl (one_of HT_.out (by kernel_rfl)) (by decide) (fun K hK => ?_)
               refine box_step ?hg (N := 11) ?hd (cs := #[.int .i64 0, .slice none 0 0]) (t := 58) ?hr ?_; (case hd => rfl); (case hg => rfl); (case hr => first | (go_simp; done) | (go_simp; rfl))
               intro gb259 hg w39 hbox hb
               have n0_ := Aside0.mk (blk_below (g := gb255) (o := .cells #[.int .i64 ((rd_T182 l1 x19_1).f0), .int .i64 ((rd_T182 l1 x19_1).f1), .int .i64 ((rd_T182 l1 x19_1).f2)] 182 (0, 0)) (by (with_reducible repeat (first | refine blk_drewN ?_ _ | refine blk_drew ?_ | refine blk_alloc ?_ _)); exact BK255.out) hb)
               have n1_ := Aside0.mk (below_step (by repeat (first | (with_reducible first | exact HB.out | apply below_alloc | apply pw_below_drewN | apply below_drew1 | refine below_set ?_ GE255.out) | exact HB.out)) hb)
               have n2_ := Aside0.mk (hbox)
               have n3_ := Aside0.mk ((by rw [hg]; exact (below_size (by repeat (first | (with_reducible first | exact HB.out | apply below_alloc | apply pw_below_drewN | apply below_drew1 | refine below_set ?_ GE255.out) | exact HB.out))) : w.heap.size ≤ gb259))
               have n4_ := Aside0.mk ((by rw [hg]; exact (below_size (by repeat (first | (with_reducible first | exact HB.out | apply below_alloc | apply pw_below_drewN | apply below_drew1 | refine below_set ?_ GE255.out) | exact HB.out))) : w.heap.size ≤ gb259))
               have n5_ := Aside0.mk ((by rw [hg]; exact Nat.ne_of_lt (blk_lt (g := gb255) (o := .cells #[.int .i64 ((rd_T182 l1 x19_1).f0), .int .i64 ((rd_T182 l1 x19_1).f1), .int .i64 ((rd_T182 l1 x19_1).f2)] 182 (0, 0)) (by (with_reducible repeat (first | refine blk_drewN ?_ _ | refine blk_drew ?_ | refine blk_alloc ?_ _)); exact BK255.out)) : gb255 ≠ gb259))
               have n6_ := Aside0.mk ((by rw [hg]; exact Nat.ne_of_gt (blk_lt (g := gb255) (o := .cells #[.int .i64 ((rd_T182 l1 x19_1).f0), .int .i64 ((rd_T182 l1 x19_1).f1), .int .i64 ((rd_T182 l1 x19_1).f2)] 182 (0, 0)) (by (with_reducible repeat (first | refine blk_drewN ?_ _ | refine blk_drew ?_ | refine blk_alloc ?_ _)); exact BK255.out)) : gb259 ≠ gb255))
               clear BK255
               clear HB
               have BK255 := n0_
               have HB := n1_
               have BK259 := n2_
               have GW259 := n3_
               have GE259 := n4_
               have NB255_259 := n5_
               have NB259_255 := n6_
               clear n0_ n1_ n2_ n3_ n4_ n5_ n6_
               clear hb hbox hg
               refine hK.out _ _ ⟨(blk_cell BK255.out 0).trans rfl, (blk_cell BK255.out 1).trans rfl, (blk_cell BK255.out 2).trans rfl, ((HB.out.cell (World.block_lt_of_cell? w _ hw257_0)).trans hw257_0), ((HB.out.cell (World.block_lt_of_cell? w _ hw258_0)).trans hw258_0), ((HB.out.cell (World.block_lt_of_cell? w _ hw258_1)).trans hw258_1)⟩ (fun hHeld => ?_)
               clear hK K
               refine norm_ (a' := ?_) ?_ ?_
               rotate_left
               ·show Act.put _ (some 11) _ = _
                simp only [Act.put, List.setIfInBounds_toArray, List.set_cons_zero, List.set_cons_succ, i64_w, i32_w]
                rfl
               refine one_ (i := 10) (N := none) #[true, true, true, true, true, true, true, true, true, true, true] rfl rfl (one_of HT_.out (by kernel_rfl)) (by decide) (fun K hK => ?_)
               have hs40 : w39.cell? ⟨gb259, 0, none⟩ = some (.int .i64 0) := (blk_cell BK259.out 0).trans rfl
               have hfs40 := blk_frozen BK259.out 0
               have hns40_0 := NB255_259.out
               have hms40_0 := NB259_255.out
               have hs41 : w39.cell? ⟨gb259, 1, none⟩ = some (.slice none 0 0) := (blk_cell BK259.out 1).trans rfl
               have hfs41 := blk_frozen BK259.out 1
               have hns41_0 := NB255_259.out
               have hms41_0 := NB259_255.out
               refine skip_ (w1 := ?_) (by rfl) rfl ?_ ?_
               rotate_left
               ·go_simp
                rfl
               refine hK.out _ _ ⟨((cell_far (p := ⟨gb259, _, none⟩) NB255_259.out _).trans (((cell_far (p := ⟨gb259, _, none⟩) NB255_259.out _).trans (hHeld.1)))), ((cell_far (p := ⟨gb259, _, none⟩) NB255_259.out _).trans (((cell_far (p := ⟨gb259, _, none⟩) NB255_259.out _).trans (hHeld.2.1)))), ((cell_far (p := ⟨gb259, _, none⟩) NB255_259.out _).trans (((cell_far (p := ⟨gb259, _, none⟩) NB255_259.out _).trans (hHeld.2.2.1)))), ((cell_far (p := ⟨gb259, _, none⟩) (by first | exact Nat.ne_of_lt (Nat.lt_of_lt_of_le (by have := World.block_lt_of_cell? _ _ hw257_0; first | rwa [add_block] at this | exact this) GW259.out) | (rw [add_block]; exact Nat.ne_of_lt (Nat.lt_of_lt_of_le (by have := World.block_lt_of_cell? _ _ hw257_0; first | rwa [add_block] at this | exact this) GW259.out)) | (show (Addr.add _ _).block ≠ _; rw [add_block]; exact Nat.ne_of_lt (Nat.lt_of_lt_of_le (by have := World.block_lt_of_cell? _ _ hw257_0; first | rwa [add_block] at this | exact this) GW259.out)) | (dsimp only; exact Nat.ne_of_lt (Nat.lt_of_lt_of_le (by have := World.block_lt_of_cell? _ _ hw257_0; first | rwa [add_block] at this | exact this) GW259.out))) _).trans (((cell_far (p := ⟨gb259, _, none⟩) (by first | exact Nat.ne_of_lt (Nat.lt_of_lt_of_le (by have := World.block_lt_of_cell? _ _ hw257_0; first | rwa [add_block] at this | exact this) GW259.out) | (rw [add_block]; exact Nat.ne_of_lt (Nat.lt_of_lt_of_le (by have := World.block_lt_of_cell? _ _ hw257_0; first | rwa [add_block] at this | exact this) GW259.out)) | (show (Addr.add _ _).block ≠ _; rw [add_block]; exact Nat.ne_of_lt (Nat.lt_of_lt_of_le (by have := World.block_lt_of_cell? _ _ hw257_0; first | rwa [add_block] at this | exact this) GW259.out)) | (dsimp only; exact Nat.ne_of_lt (Nat.lt_of_lt_of_le (by have := World.block_lt_of_cell? _ _ hw257_0; first | rwa [add_block] at this | exact this) GW259.out))) _).trans (hHeld.2.2.2.1)))), ((cell_far (p := ⟨gb259, _, none⟩) (by first | exact Nat.ne_of_lt (Nat.lt_of_lt_of_le (by have := World.block_lt_of_cell? _ _ hw258_0; first | rwa [add_block] at this | exact this) GW259.out) | (rw [add_block]; exact Nat.ne_of_lt (Nat.lt_of_lt_of_le (by have := World.block_lt_of_cell? _ _ hw258_0; first | rwa [add_block] at this | exact this) GW259.out)) | (show (Addr.add _ _).block ≠ _; rw [add_block]; exact Nat.ne_of_lt (Nat.lt_of_lt_of_le (by have := World.block_lt_of_cell? _ _ hw258_0; first | rwa [add_block] at this | exact this) GW259.out)) | (dsimp only; exact Nat.ne_of_lt (Nat.lt_of_lt_of_le (by have := World.block_lt_of_cell? _ _ hw258_0; first | rwa [add_block] at this | exact this) GW259.out))) _).trans (((cell_far (p := ⟨gb259, _, none⟩) (by first | exact Nat.ne_of_lt (Nat.lt_of_lt_of_le (by have := World.block_lt_of_cell? _ _ hw258_0; first | rwa [add_block] at this | exact this) GW259.out) | (rw [add_block]; exact Nat.ne_of_lt (Nat.lt_of_lt_of_le (by have := World.block_lt_of_cell? _ _ hw258_0; first | rwa [add_block] at this | exact this) GW259.out)) | (show (Addr.add _ _).block ≠ _; rw [add_block]; exact Nat.ne_of_lt (Nat.lt_of_lt_of_le (by have := World.block_lt_of_cell? _ _ hw258_0; first | rwa [add_block] at this | exact this) GW259.out)) | (dsimp only; exact Nat.ne_of_lt (Nat.lt_of_lt_of_le (by have := World.block_lt_of_cell? _ _ hw258_0; first | rwa [add_block] at this | exact this) GW259.out))) _).trans (hHeld.2.2.2.2.1)))), ((cell_far (p := ⟨gb259, _, none⟩) (by first | exact Nat.ne_of_lt (Nat.lt_of_lt_of_le (by have := World.block_lt_of_cell? _ _ hw258_1; first | rwa [add_block] at this | exact this) GW259.out) | (rw [add_block]; exact Nat.ne_of_lt (Nat.lt_of_lt_of_le (by have := World.block_lt_of_cell? _ _ hw258_1; first | rwa [add_block] at this | exact this) GW259.out)) | (show (Addr.add _ _).block ≠ _; rw [add_block]; exact Nat.ne_of_lt (Nat.lt_of_lt_of_le (by have := World.block_lt_of_cell? _ _ hw258_1; first | rwa [add_block] at this | exact this) GW259.out)) | (dsimp only; exact Nat.ne_of_lt (Nat.lt_of_lt_of_le (by have := World.block_lt_of_cell? _ _ hw258_1; first | rwa [add_block] at this | exact this) GW259.out))) _).trans (((cell_far (p := ⟨gb259, _, none⟩) (by first | exact Nat.ne_of_lt (Nat.lt_of_lt_of_le (by have := World.block_lt_of_cell? _ _ hw258_1; first | rwa [add_block] at this | exact this) GW259.out) | (rw [add_block]; exact Nat.ne_of_lt (Nat.lt_of_lt_of_le (by have := World.block_lt_of_cell? _ _ hw258_1; first | rwa [add_block] at this | exact this) GW259.out)) | (show (Addr.add _ _).block ≠ _; rw [add_block]; exact Nat.ne_of_lt (Nat.lt_of_lt_of_le (by have := World.block_lt_of_cell? _ _ hw258_1; first | rwa [add_block] at this | exact this) GW259.out)) | (dsimp only; exact Nat.ne_of_lt (Nat.lt_of_lt_of_le (by have := World.block_lt_of_cell? _ _ hw258_1; first | rwa [add_block] at this | exact this) GW259.out))) _).trans (hHeld.2.2.2.2.2))))⟩ (fun hHeld => ?_)
               clear hK K
               refine done_ (done_of HT_.out (by kernel_rfl)) ?_
               try go_wp2
               have n0_ : Aside0 (((w39.setCell ⟨gb259, 0, none⟩ (.int .i64 ((rd_T58 (rd_L3 l0 ((rd_T182 l1 x19_1).f0)) ((rd_T182 l1 x19_1).f1)).f0))).setCell ⟨gb259, 1, none⟩ (.slice A258_1 ((rd_T58 (rd_L3 l0 ((rd_T182 l1 x19_1).f0)) ((rd_T182 l1 x19_1).f1)).f1).length c258_1)).heap[gb255]? = some (.cells #[.int .i64 ((rd_T182 l1 x19_1).f0), .int .i64 ((rd_T182 l1 x19_1).f1), .int .i64 ((rd_T182 l1 x19_1).f2)] 182 (0, 0))) := ⟨by (with_reducible repeat (first | refine blk_drewN ?_ _ | refine blk_drew ?_ | refine blk_alloc ?_ _)); refine blk_far ?_ NB255_259.out _; (with_reducible repeat (first | refine blk_drewN ?_ _ | refine blk_drew ?_ | refine blk_alloc ?_ _)); refine blk_far ?_ NB255_259.out _; (with_reducible repeat (first | refine blk_drewN ?_ _ | refine blk_drew ?_ | refine blk_alloc ?_ _)); exact BK255.out⟩
               have n1_ : Aside0 (((w39.setCell ⟨gb259, 0, none⟩ (.int .i64 ((rd_T58 (rd_L3 l0 ((rd_T182 l1 x19_1).f0)) ((rd_T182 l1 x19_1).f1)).f0))).setCell ⟨gb259, 1, none⟩ (.slice A258_1 ((rd_T58 (rd_L3 l0 ((rd_T182 l1 x19_1).f0)) ((rd_T182 l1 x19_1).f1)).f1).length c258_1)).heap[gb259]? = some (.cells #[.int .i64 ((rd_T58 (rd_L3 l0 ((rd_T182 l1 x19_1).f0)) ((rd_T182 l1 x19_1).f1)).f0), .slice A258_1 ((rd_T58 (rd_L3 l0 ((rd_T182 l1 x19_1).f0)) ((rd_T182 l1 x19_1).f1)).f1).length c258_1] 58 (0, 0))) := ⟨by (with_reducible repeat (first | refine blk_drewN ?_ _ | refine blk_drew ?_ | refine blk_alloc ?_ _)); refine blk_put (cs := #[.int .i64 ((rd_T58 (rd_L3 l0 ((rd_T182 l1 x19_1).f0)) ((rd_T182 l1 x19_1).f1)).f0), .slice none 0 0]) ?_ 1 _ rfl; (with_reducible repeat (first | refine blk_drewN ?_ _ | refine blk_drew ?_ | refine blk_alloc ?_ _)); refine blk_put (cs := #[.int .i64 0, .slice none 0 0]) ?_ 0 _ rfl; (with_reducible repeat (first | refine blk_drewN ?_ _ | refine blk_drew ?_ | refine blk_alloc ?_ _)); exact BK259.out⟩
               have n2_ : Aside0 (Below w.heap.size w ((w39.setCell ⟨gb259, 0, none⟩ (.int .i64 ((rd_T58 (rd_L3 l0 ((rd_T182 l1 x19_1).f0)) ((rd_T182 l1 x19_1).f1)).f0))).setCell ⟨gb259, 1, none⟩ (.slice A258_1 ((rd_T58 (rd_L3 l0 ((rd_T182 l1 x19_1).f0)) ((rd_T182 l1 x19_1).f1)).f1).length c258_1))) := ⟨by repeat (first | (with_reducible first | exact HB.out | apply below_alloc | apply pw_below_drewN | apply below_drew1 | refine below_set ?_ GE255.out | refine below_set ?_ GE259.out) | exact HB.out)⟩
               (try clear BK255)
               (try clear BK259)
               (try clear HB)
               generalize ((w39.setCell ⟨gb259, 0, none⟩ (.int .i64 ((rd_T58 (rd_L3 l0 ((rd_T182 l1 x19_1).f0)) ((rd_T182 l1 x19_1).f1)).f0))).setCell ⟨gb259, 1, none⟩ (.slice A258_1 ((rd_T58 (rd_L3 l0 ((rd_T182 l1 x19_1).f0)) ((rd_T182 l1 x19_1).f1)).f1).length c258_1)) = w42 at n0_ n1_ n2_ ⊢
               have BK255 := n0_
               have BK259 := n1_
               have HB := n2_
               clear n0_ n1_ n2_
               have n0_ := Aside0.mk (blk_drew BK255.out)
               have n1_ := Aside0.mk (blk_drew BK259.out)
               have n2_ := Aside0.mk (below_drew1 HB.out)
               clear BK255
               clear BK259
               clear HB
               have BK255 := n0_
               have BK259 := n1_
               have HB := n2_
               clear n0_ n1_ n2_
               refine start_ (n := 7) (S := fun w' => w'.cell? ⟨gb259, 0, none⟩ = some (.int .i64 ((rd_T58 (rd_L3 l0 ((rd_T182 l1 x19_1).f0)) ((rd_T182 l1 x19_1).f1)).f0)) ∧ w'.cell? ⟨gb259, 1, none⟩ = some (.slice A258_1 ((rd_T58 (rd_L3 l0 ((rd_T182 l1 x19_1).f0)) ((rd_T182 l1 x19_1).f1)).f1).length c258_1) ∧ w'.cell? ⟨gb255, 0, none⟩ = some (.int .i64 ((rd_T182 l1 x19_1).f0)) ∧ w'.cell? ⟨gb255, 1, none⟩ = some (.int .i64 ((rd_T182 l1 x19_1).f1)) ∧ w'.cell? ⟨gb255, 2, none⟩ = some (.int .i64 ((rd_T182 l1 x19_1).f2))) (ds := []) #[false, false, false, false, false, false, false] (by kernel_rfl) rfl rfl ⟨(blk_cell BK259.out 0).trans rfl, (blk_cell BK259.out 1).trans rfl, (blk_cell BK255.out 0).trans rfl, (blk_cell BK255.out 1).trans rfl, (blk_cell BK255.out 2).trans rfl⟩ (fun hHeld => ?_)
               generalize w42.drew = w43 at BK255 BK259 HB hHeld ⊢
               refine pure_ (i := 0) (N := some 69) (v := ?_) (a' := ?_) #[true, false, false, false, false, false, false] rfl rfl (by kernel_rfl) (fun _ _ _ h => h) (Or.inl ⟨by rfl, ?_⟩) ?_ ?_
               rotate_left
               ·intro w'
                go_simp
                with_reducible rfl
               rotate_left
               ·simp only [Act.put, List.setIfInBounds_toArray, List.set_cons_zero, List.set_cons_succ, i64_w, i32_w]
                rfl
               refine pure_ (i := 2) (N := some 71) (v := ?_) (a' := ?_) #[true, false, true, false, false, false, false] rfl rfl (by kernel_rfl) (fun _ _ _ h => h) (Or.inl ⟨by rfl, ?_⟩) ?_ ?_
               rotate_left
               ·intro w'
                go_simp
                with_reducible rfl
               rotate_left
               ·simp only [Act.put, List.setIfInBounds_toArray, List.set_cons_zero, List.set_cons_succ, i64_w, i32_w]
                rfl
               refine take_ (i := 1) (N := some 70) (v := ?_) (a' := ?_) #[true, true, true, false, false, false, false] rfl rfl (by kernel_rfl) (fun _ _ _ h => h) (Or.inl ⟨by rfl, ?_⟩) hHeld ?_ ?_
               rotate_left
               ·rintro w' ⟨s0, s1, s2, s3, s4⟩
                go_simp
                with_reducible rfl
               rotate_left
               ·simp only [Act.put, List.setIfInBounds_toArray, List.set_cons_zero, List.set_cons_succ, i64_w, i32_w]
                rfl
               refine take_ (i := 3) (N := some 72) (v := ?_) (a' := ?_) #[true, true, true, true, false, false, false] rfl rfl (by kernel_rfl) (fun _ _ _ h => h) (Or.inl ⟨by rfl, ?_⟩) hHeld ?_ ?_
               rotate_left
               ·rintro w' ⟨s0, s1, s2, s3, s4⟩
                go_simp
                with_reducible rfl
               rotate_left
               ·simp only [Act.put, List.setIfInBounds_toArray, List.set_cons_zero, List.set_cons_succ, i64_w, i32_w]
                rfl
               refine pure_ (i := 4) (N := some 73) (v := ?_) (a' := ?_) #[true, true, true, true, true, false, false] rfl rfl (by kernel_rfl) (fun _ _ _ h => h) (Or.inl ⟨by rfl, ?_⟩) ?_ ?_
               rotate_left
               ·intro w'
                go_simp
                with_reducible rfl
               rotate_left
               ·simp only [Act.put, List.setIfInBounds_toArray, List.set_cons_zero, List.set_cons_succ, i64_w, i32_w]
                rfl
               refine pure_ (i := 5) (N := some 74) (v := ?_) (a' := ?_) #[true, true, true, true, true, true, false] rfl rfl (by kernel_rfl) (fun _ _ _ h => h) (Or.inl ⟨by rfl, ?_⟩) ?_ ?_
               rotate_left
               ·intro w'
                go_simp
                with_reducible rfl
               rotate_left
               ·simp only [Act.put, List.setIfInBounds_toArray, List.set_cons_zero, List.set_cons_succ, i64_w, i32_w]
                rfl
               refine pure_ (i := 6) (N := some 75) (v := ?_) (a' := ?_) #[true, true, true, true, true, true, true] rfl rfl (by kernel_rfl) (fun _ _ _ h => h) (Or.inl ⟨by rfl, ?_⟩) ?_ ?_
               rotate_left
               ·intro w'
                go_simp
                with_reducible rfl
               rotate_left
               ·simp only [Act.put, List.setIfInBounds_toArray, List.set_cons_zero, List.set_cons_succ, i64_w, i32_w]
                rfl
               refine done_ (by kernel_rfl) ?_
               try go_wp2
               go_ret
               exact ⟨by first | rfl | (simp [errW_none, errW_some] <;> rfl) | (simp only [← hji36]; first | rfl | (simp [errW_none, errW_some] <;> rfl)) | (simp [*, errW_none, errW_some] <;> rfl), by repeat (first | (with_reducible first | exact HB.out | apply below_alloc | apply pw_below_drewN | apply below_drew1 | refine below_set ?_ GE255.out | refine below_set ?_ GE259.out) | exact HB.out)⟩
              ·rw [if_neg c37] at H
               have c37b0 : ((Go.bits .and .i64 ((rd_T58 (rd_L3 l0 ((rd_T182 l1 x19_1).f0)) ((rd_T182 l1 x19_1).f1)).f0) (ji36)) == 0) = false := beq_eq_false_iff_ne.mpr c37
               have c37b1 : ((Go.bits .and .i64 ((rd_T58 (rd_L3 l0 ((rd_T182 l1 x19_1).f0)) ((rd_T182 l1 x19_1).f1)).f0) (ji36)) != 0) = true := bne_iff_ne.mpr c37
               have H' := Aside0.mk H
               clear H
               try go_wp2
               have n0_ := Aside0.mk (blk_drew BK255.out)
               have n1_ := Aside0.mk (below_drew1 HB.out)
               clear BK255
               clear HB
               have BK255 := n0_
               have HB := n1_
               clear n0_ n1_
               have p257 : 0 ≤ (((rd_T182 l1 x19_1).f0) : Int) := of_decide_eq_true (by first | (with_reducible assumption) | assumption)
               have q257 : ((rd_T182 l1 x19_1).f0) < (l0.length : Int) := of_decide_eq_true (by first | (with_reducible assumption) | assumption)
               obtain ⟨ad257, A257_0, c257_0, e257, hx257_0, hl257_0, hi257_0⟩ := at_L3 HR0.out ((rd_T182 l1 x19_1).f0) p257 q257
               have hw257_0 := hx257_0
               cases e257
               replace hx257_0 := (HB.out.cell (World.block_lt_of_cell? w _ hx257_0)).trans hx257_0
               have HR257_0 := Aside0.mk hi257_0
               have HC257_0 := Aside0.mk hl257_0
               clear hi257_0 hl257_0
               replace p257 := eq_true p257
               replace q257 := eq_true q257
               have p258 : 0 ≤ (((rd_T182 l1 x19_1).f1) : Int) := of_decide_eq_true (by first | (with_reducible assumption) | assumption)
               have q258 : ((rd_T182 l1 x19_1).f1) < ((rd_L3 l0 ((rd_T182 l1 x19_1).f0)).length : Int) := of_decide_eq_true (by first | (with_reducible assumption) | assumption)
               obtain ⟨ad258, A258_1, c258_1, e258, hx258_0, hx258_1, hl258_1, hi258_1⟩ := at_T58 HR257_0.out ((rd_T182 l1 x19_1).f1) p258 q258
               have hw258_1 := hx258_1
               have hw258_0 := hx258_0
               cases e258
               replace hx258_0 := (HB.out.cell (World.block_lt_of_cell? w _ hx258_0)).trans hx258_0
               replace hx258_1 := (HB.out.cell (World.block_lt_of_cell? w _ hx258_1)).trans hx258_1
               have HR258_1 := Aside0.mk hi258_1
               have HC258_1 := Aside0.mk hl258_1
               clear hi258_1 hl258_1
               replace p258 := eq_true p258
               replace q258 := eq_true q258
               refine start_ (n := 11) (S := fun w' => w'.cell? ⟨gb255, 0, none⟩ = some (.int .i64 ((rd_T182 l1 x19_1).f0)) ∧ w'.cell? ⟨gb255, 1, none⟩ = some (.int .i64 ((rd_T182 l1 x19_1).f1)) ∧ w'.cell? ⟨gb255, 2, none⟩ = some (.int .i64 ((rd_T182 l1 x19_1).f2)) ∧ w'.cell? (ad257.add (((rd_T182 l1 x19_1).f0)).toNat) = some (.slice (some ad258) (rd_L3 l0 ((rd_T182 l1 x19_1).f0)).length c257_0) ∧ w'.cell? (ad258.add ((((rd_T182 l1 x19_1).f1)).toNat * 2)) = some (.int .i64 ((rd_T58 (rd_L3 l0 ((rd_T182 l1 x19_1).f0)) ((rd_T182 l1 x19_1).f1)).f0)) ∧ w'.cell? ⟨(ad258.add ((((rd_T182 l1 x19_1).f1)).toNat * 2)).block, (ad258.add ((((rd_T182 l1 x19_1).f1)).toNat * 2)).off + 1, none⟩ = some (.slice A258_1 ((rd_T58 (rd_L3 l0 ((rd_T182 l1 x19_1).f0)) ((rd_T182 l1 x19_1).f1)).f1).length c258_1)) (ds := []) #[false, false, false, false, false, false, false, false, false, false, false] (by kernel_rfl) rfl rfl ⟨(blk_cell BK255.out 0).trans rfl, (blk_cell BK255.out 1).trans rfl, (blk_cell BK255.out 2).trans rfl, ((HB.out.cell (World.block_lt_of_cell? w _ hw257_0)).trans hw257_0), ((HB.out.cell (World.block_lt_of_cell? w _ hw258_0)).trans hw258_0), ((HB.out.cell (World.block_lt_of_cell? w _ hw258_1)).trans hw258_1)⟩ (fun hHeld => ?_); refine with_tabW glossatorref3_Proves.tab6 glossatorref3_Proves.bits6 (fun HT_ HW_ => ?_)
               generalize wc.drew = w44 at BK255 HB HR257_0 HR258_1 hx257_0 hx258_0 hx258_1 hHeld ⊢
               refine pure_ (i := 0) (N := some 60) (v := ?_) (a' := ?_) #[true, false, false, false, false, false, false, false, false, false, false] rfl rfl (any_of HT_.out (by kernel_rfl)) (fun _ _ _ h => h) (Or.inl ⟨by rfl, ?_⟩) ?_ ?_
               rotate_left
               ·intro w'
                go_simp
                with_reducible rfl
               rotate_left
               ·simp only [Act.put, List.setIfInBounds_toArray, List.set_cons_zero, List.set_cons_succ, i64_w, i32_w]
                rfl
               refine pure_ (i := 1) (N := some 61) (v := ?_) (a' := ?_) #[true, true, false, false, false, false, false, false, false, false, false] rfl rfl (any_of HT_.out (by kernel_rfl)) (fun _ _ _ h => h) (Or.inl ⟨by rfl, ?_⟩) ?_ ?_
               rotate_left
               ·intro w'
                go_simp
                with_reducible rfl
               rotate_left
               ·simp only [Act.put, List.setIfInBounds_toArray, List.set_cons_zero, List.set_cons_succ, i64_w, i32_w]
                rfl
               refine pure_ (i := 5) (N := some 65) (v := ?_) (a' := ?_) #[true, true, false, false, false, true, false, false, false, false, false] rfl rfl (any_of HT_.out (by kernel_rfl)) (fun _ _ _ h => h) (Or.inl ⟨by rfl, ?_⟩) ?_ ?_
               rotate_left
               ·intro w'
                go_simp
                with_reducible rfl
               rotate_left
               ·simp only [Act.put, List.setIfInBounds_toArray, List.set_cons_zero, List.set_cons_succ, i64_w, i32_w]
                rfl
               refine take_ (i := 2) (N := some 62) (v := ?_) (a' := ?_) #[true, true, true, false, false, true, false, false, false, false, false] rfl rfl (take_ofW HT_.out HW_.out (by kernel_rfl)) (fun _ _ _ h => h) (Or.inl ⟨by rfl, ?_⟩) hHeld ?_ ?_
               rotate_left
               ·rintro w' ⟨s0, s1, s2, s3, s4, s5⟩
                go_simp
                with_reducible rfl
               rotate_left
               ·simp only [Act.put, List.setIfInBounds_toArray, List.set_cons_zero, List.set_cons_succ, i64_w, i32_w]
                rfl
               refine pure_ (i := 3) (N := some 63) (v := ?_) (a' := ?_) #[true, true, true, true, false, true, false, false, false, false, false] rfl rfl (any_of HT_.out (by kernel_rfl)) (fun _ _ _ h => h) (Or.inl ⟨by rfl, ?_⟩) ?_ ?_
               rotate_left
               ·intro w'
                go_simp
                with_reducible rfl
               rotate_left
               ·simp only [Act.put, List.setIfInBounds_toArray, List.set_cons_zero, List.set_cons_succ, i64_w, i32_w]
                rfl
               refine take_ (i := 4) (N := some 64) (v := ?_) (a' := ?_) #[true, true, true, true, true, true, false, false, false, false, false] rfl rfl (take_ofW HT_.out HW_.out (by kernel_rfl)) (fun _ _ _ h => h) (Or.inl ⟨by rfl, ?_⟩) hHeld ?_ ?_
               rotate_left
               ·rintro w' ⟨s0, s1, s2, s3, s4, s5⟩
                go_simp
                with_reducible rfl
               rotate_left
               ·simp only [Act.put, List.setIfInBounds_toArray, List.set_cons_zero, List.set_cons_succ, i64_w, i32_w]
                rfl
               refine take_ (i := 6) (N := some 66) (v := ?_) (a' := ?_) #[true, true, true, true, true, true, true, false, false, false, false] rfl rfl (take_ofW HT_.out HW_.out (by kernel_rfl)) (fun _ _ _ h => h) (Or.inl ⟨by rfl, ?_⟩) hHeld ?_ ?_
               rotate_left
               ·rintro w' ⟨s0, s1, s2, s3, s4, s5⟩
                go_simp
                with_reducible rfl
               rotate_left
               ·simp only [Act.put, List.setIfInBounds_toArray, List.set_cons_zero, List.set_cons_succ, i64_w, i32_w]
                rfl
               refine pure_ (i := 7) (N := some 67) (v := ?_) (a' := ?_) #[true, true, true, true, true, true, true, true, false, false, false] rfl rfl (any_of HT_.out (by kernel_rfl)) (fun _ _ _ h => h) (Or.inl ⟨by rfl, ?_⟩) ?_ ?_
               rotate_left
               ·intro w'
                go_simp
                with_reducible rfl
               rotate_left
               ·simp only [Act.put, List.setIfInBounds_toArray, List.set_cons_zero, List.set_cons_succ, i64_w, i32_w]
                rfl
               refine take_ (i := 8) (N := some 68) (v := ?_) (a' := ?_) #[true, true, true, true, true, true, true, true, true, false, false] rfl rfl (take_ofW HT_.out HW_.out (by kernel_rfl)) (fun _ _ _ h => h) (Or.inl ⟨by rfl, ?_⟩) hHeld ?_ ?_
               rotate_left
               ·rintro w' ⟨s0, s1, s2, s3, s4, s5⟩
                go_simp
                with_reducible rfl
               rotate_left
               ·simp only [Act.put, List.setIfInBounds_toArray, List.set_cons_zero, List.set_cons_succ, i64_w, i32_w]
                rfl
               refine one_ (i := 9) (N := some 11) #[true, true, true, true, true, true, true, true, true, true, false] rfl rfl (one_of HT_.out (by kernel_rfl)) (by decide) (fun K hK => ?_)
               refine box_step ?hg (N := 11) ?hd (cs := #[.int .i64 0, .slice none 0 0]) (t := 58) ?hr ?_; (case hd => rfl); (case hg => rfl); (case hr => first | (go_simp; done) | (go_simp; rfl))
               intro gb259 hg w45 hbox hb
               have n0_ := Aside0.mk (blk_below (g := gb255) (o := .cells #[.int .i64 ((rd_T182 l1 x19_1).f0), .int .i64 ((rd_T182 l1 x19_1).f1), .int .i64 ((rd_T182 l1 x19_1).f2)] 182 (0, 0)) (by (with_reducible repeat (first | refine blk_drewN ?_ _ | refine blk_drew ?_ | refine blk_alloc ?_ _)); exact BK255.out) hb)
               have n1_ := Aside0.mk (below_step (by repeat (first | (with_reducible first | exact HB.out | apply below_alloc | apply pw_below_drewN | apply below_drew1 | refine below_set ?_ GE255.out) | exact HB.out)) hb)
               have n2_ := Aside0.mk (hbox)
               have n3_ := Aside0.mk ((by rw [hg]; exact (below_size (by repeat (first | (with_reducible first | exact HB.out | apply below_alloc | apply pw_below_drewN | apply below_drew1 | refine below_set ?_ GE255.out) | exact HB.out))) : w.heap.size ≤ gb259))
               have n4_ := Aside0.mk ((by rw [hg]; exact (below_size (by repeat (first | (with_reducible first | exact HB.out | apply below_alloc | apply pw_below_drewN | apply below_drew1 | refine below_set ?_ GE255.out) | exact HB.out))) : w.heap.size ≤ gb259))
               have n5_ := Aside0.mk ((by rw [hg]; exact Nat.ne_of_lt (blk_lt (g := gb255) (o := .cells #[.int .i64 ((rd_T182 l1 x19_1).f0), .int .i64 ((rd_T182 l1 x19_1).f1), .int .i64 ((rd_T182 l1 x19_1).f2)] 182 (0, 0)) (by (with_reducible repeat (first | refine blk_drewN ?_ _ | refine blk_drew ?_ | refine blk_alloc ?_ _)); exact BK255.out)) : gb255 ≠ gb259))
               have n6_ := Aside0.mk ((by rw [hg]; exact Nat.ne_of_gt (blk_lt (g := gb255) (o := .cells #[.int .i64 ((rd_T182 l1 x19_1).f0), .int .i64 ((rd_T182 l1 x19_1).f1), .int .i64 ((rd_T182 l1 x19_1).f2)] 182 (0, 0)) (by (with_reducible repeat (first | refine blk_drewN ?_ _ | refine blk_drew ?_ | refine blk_alloc ?_ _)); exact BK255.out)) : gb259 ≠ gb255))
               clear BK255
               clear HB
               have BK255 := n0_
               have HB := n1_
               have BK259 := n2_
               have GW259 := n3_
               have GE259 := n4_
               have NB255_259 := n5_
               have NB259_255 := n6_
               clear n0_ n1_ n2_ n3_ n4_ n5_ n6_
               clear hb hbox hg
               refine hK.out _ _ ⟨(blk_cell BK255.out 0).trans rfl, (blk_cell BK255.out 1).trans rfl, (blk_cell BK255.out 2).trans rfl, ((HB.out.cell (World.block_lt_of_cell? w _ hw257_0)).trans hw257_0), ((HB.out.cell (World.block_lt_of_cell? w _ hw258_0)).trans hw258_0), ((HB.out.cell (World.block_lt_of_cell? w _ hw258_1)).trans hw258_1)⟩ (fun hHeld => ?_)
               clear hK K
               refine norm_ (a' := ?_) ?_ ?_
               rotate_left
               ·show Act.put _ (some 11) _ = _
                simp only [Act.put, List.setIfInBounds_toArray, List.set_cons_zero, List.set_cons_succ, i64_w, i32_w]
                rfl
               refine one_ (i := 10) (N := none) #[true, true, true, true, true, true, true, true, true, true, true] rfl rfl (one_of HT_.out (by kernel_rfl)) (by decide) (fun K hK => ?_)
               have hs46 : w45.cell? ⟨gb259, 0, none⟩ = some (.int .i64 0) := (blk_cell BK259.out 0).trans rfl
               have hfs46 := blk_frozen BK259.out 0
               have hns46_0 := NB255_259.out
               have hms46_0 := NB259_255.out
               have hs47 : w45.cell? ⟨gb259, 1, none⟩ = some (.slice none 0 0) := (blk_cell BK259.out 1).trans rfl
               have hfs47 := blk_frozen BK259.out 1
               have hns47_0 := NB255_259.out
               have hms47_0 := NB259_255.out
               refine skip_ (w1 := ?_) (by rfl) rfl ?_ ?_
               rotate_left
               ·go_simp
                rfl
               refine hK.out _ _ ⟨((cell_far (p := ⟨gb259, _, none⟩) NB255_259.out _).trans (((cell_far (p := ⟨gb259, _, none⟩) NB255_259.out _).trans (hHeld.1)))), ((cell_far (p := ⟨gb259, _, none⟩) NB255_259.out _).trans (((cell_far (p := ⟨gb259, _, none⟩) NB255_259.out _).trans (hHeld.2.1)))), ((cell_far (p := ⟨gb259, _, none⟩) NB255_259.out _).trans (((cell_far (p := ⟨gb259, _, none⟩) NB255_259.out _).trans (hHeld.2.2.1)))), ((cell_far (p := ⟨gb259, _, none⟩) (by first | exact Nat.ne_of_lt (Nat.lt_of_lt_of_le (by have := World.block_lt_of_cell? _ _ hw257_0; first | rwa [add_block] at this | exact this) GW259.out) | (rw [add_block]; exact Nat.ne_of_lt (Nat.lt_of_lt_of_le (by have := World.block_lt_of_cell? _ _ hw257_0; first | rwa [add_block] at this | exact this) GW259.out)) | (show (Addr.add _ _).block ≠ _; rw [add_block]; exact Nat.ne_of_lt (Nat.lt_of_lt_of_le (by have := World.block_lt_of_cell? _ _ hw257_0; first | rwa [add_block] at this | exact this) GW259.out)) | (dsimp only; exact Nat.ne_of_lt (Nat.lt_of_lt_of_le (by have := World.block_lt_of_cell? _ _ hw257_0; first | rwa [add_block] at this | exact this) GW259.out))) _).trans (((cell_far (p := ⟨gb259, _, none⟩) (by first | exact Nat.ne_of_lt (Nat.lt_of_lt_of_le (by have := World.block_lt_of_cell? _ _ hw257_0; first | rwa [add_block] at this | exact this) GW259.out) | (rw [add_block]; exact Nat.ne_of_lt (Nat.lt_of_lt_of_le (by have := World.block_lt_of_cell? _ _ hw257_0; first | rwa [add_block] at this | exact this) GW259.out)) | (show (Addr.add _ _).block ≠ _; rw [add_block]; exact Nat.ne_of_lt (Nat.lt_of_lt_of_le (by have := World.block_lt_of_cell? _ _ hw257_0; first | rwa [add_block] at this | exact this) GW259.out)) | (dsimp only; exact Nat.ne_of_lt (Nat.lt_of_lt_of_le (by have := World.block_lt_of_cell? _ _ hw257_0; first | rwa [add_block] at this | exact this) GW259.out))) _).trans (hHeld.2.2.2.1)))), ((cell_far (p := ⟨gb259, _, none⟩) (by first | exact Nat.ne_of_lt (Nat.lt_of_lt_of_le (by have := World.block_lt_of_cell? _ _ hw258_0; first | rwa [add_block] at this | exact this) GW259.out) | (rw [add_block]; exact Nat.ne_of_lt (Nat.lt_of_lt_of_le (by have := World.block_lt_of_cell? _ _ hw258_0; first | rwa [add_block] at this | exact this) GW259.out)) | (show (Addr.add _ _).block ≠ _; rw [add_block]; exact Nat.ne_of_lt (Nat.lt_of_lt_of_le (by have := World.block_lt_of_cell? _ _ hw258_0; first | rwa [add_block] at this | exact this) GW259.out)) | (dsimp only; exact Nat.ne_of_lt (Nat.lt_of_lt_of_le (by have := World.block_lt_of_cell? _ _ hw258_0; first | rwa [add_block] at this | exact this) GW259.out))) _).trans (((cell_far (p := ⟨gb259, _, none⟩) (by first | exact Nat.ne_of_lt (Nat.lt_of_lt_of_le (by have := World.block_lt_of_cell? _ _ hw258_0; first | rwa [add_block] at this | exact this) GW259.out) | (rw [add_block]; exact Nat.ne_of_lt (Nat.lt_of_lt_of_le (by have := World.block_lt_of_cell? _ _ hw258_0; first | rwa [add_block] at this | exact this) GW259.out)) | (show (Addr.add _ _).block ≠ _; rw [add_block]; exact Nat.ne_of_lt (Nat.lt_of_lt_of_le (by have := World.block_lt_of_cell? _ _ hw258_0; first | rwa [add_block] at this | exact this) GW259.out)) | (dsimp only; exact Nat.ne_of_lt (Nat.lt_of_lt_of_le (by have := World.block_lt_of_cell? _ _ hw258_0; first | rwa [add_block] at this | exact this) GW259.out))) _).trans (hHeld.2.2.2.2.1)))), ((cell_far (p := ⟨gb259, _, none⟩) (by first | exact Nat.ne_of_lt (Nat.lt_of_lt_of_le (by have := World.block_lt_of_cell? _ _ hw258_1; first | rwa [add_block] at this | exact this) GW259.out) | (rw [add_block]; exact Nat.ne_of_lt (Nat.lt_of_lt_of_le (by have := World.block_lt_of_cell? _ _ hw258_1; first | rwa [add_block] at this | exact this) GW259.out)) | (show (Addr.add _ _).block ≠ _; rw [add_block]; exact Nat.ne_of_lt (Nat.lt_of_lt_of_le (by have := World.block_lt_of_cell? _ _ hw258_1; first | rwa [add_block] at this | exact this) GW259.out)) | (dsimp only; exact Nat.ne_of_lt (Nat.lt_of_lt_of_le (by have := World.block_lt_of_cell? _ _ hw258_1; first | rwa [add_block] at this | exact this) GW259.out))) _).trans (((cell_far (p := ⟨gb259, _, none⟩) (by first | exact Nat.ne_of_lt (Nat.lt_of_lt_of_le (by have := World.block_lt_of_cell? _ _ hw258_1; first | rwa [add_block] at this | exact this) GW259.out) | (rw [add_block]; exact Nat.ne_of_lt (Nat.lt_of_lt_of_le (by have := World.block_lt_of_cell? _ _ hw258_1; first | rwa [add_block] at this | exact this) GW259.out)) | (show (Addr.add _ _).block ≠ _; rw [add_block]; exact Nat.ne_of_lt (Nat.lt_of_lt_of_le (by have := World.block_lt_of_cell? _ _ hw258_1; first | rwa [add_block] at this | exact this) GW259.out)) | (dsimp only; exact Nat.ne_of_lt (Nat.lt_of_lt_of_le (by have := World.block_lt_of_cell? _ _ hw258_1; first | rwa [add_block] at this | exact this) GW259.out))) _).trans (hHeld.2.2.2.2.2))))⟩ (fun hHeld => ?_)
               clear hK K
               refine done_ (done_of HT_.out (by kernel_rfl)) ?_
               try go_wp2
               have n0_ : Aside0 (((w45.setCell ⟨gb259, 0, none⟩ (.int .i64 ((rd_T58 (rd_L3 l0 ((rd_T182 l1 x19_1).f0)) ((rd_T182 l1 x19_1).f1)).f0))).setCell ⟨gb259, 1, none⟩ (.slice A258_1 ((rd_T58 (rd_L3 l0 ((rd_T182 l1 x19_1).f0)) ((rd_T182 l1 x19_1).f1)).f1).length c258_1)).heap[gb255]? = some (.cells #[.int .i64 ((rd_T182 l1 x19_1).f0), .int .i64 ((rd_T182 l1 x19_1).f1), .int .i64 ((rd_T182 l1 x19_1).f2)] 182 (0, 0))) := ⟨by (with_reducible repeat (first | refine blk_drewN ?_ _ | refine blk_drew ?_ | refine blk_alloc ?_ _)); refine blk_far ?_ NB255_259.out _; (with_reducible repeat (first | refine blk_drewN ?_ _ | refine blk_drew ?_ | refine blk_alloc ?_ _)); refine blk_far ?_ NB255_259.out _; (with_reducible repeat (first | refine blk_drewN ?_ _ | refine blk_drew ?_ | refine blk_alloc ?_ _)); exact BK255.out⟩
               have n1_ : Aside0 (((w45.setCell ⟨gb259, 0, none⟩ (.int .i64 ((rd_T58 (rd_L3 l0 ((rd_T182 l1 x19_1).f0)) ((rd_T182 l1 x19_1).f1)).f0))).setCell ⟨gb259, 1, none⟩ (.slice A258_1 ((rd_T58 (rd_L3 l0 ((rd_T182 l1 x19_1).f0)) ((rd_T182 l1 x19_1).f1)).f1).length c258_1)).heap[gb259]? = some (.cells #[.int .i64 ((rd_T58 (rd_L3 l0 ((rd_T182 l1 x19_1).f0)) ((rd_T182 l1 x19_1).f1)).f0), .slice A258_1 ((rd_T58 (rd_L3 l0 ((rd_T182 l1 x19_1).f0)) ((rd_T182 l1 x19_1).f1)).f1).length c258_1] 58 (0, 0))) := ⟨by (with_reducible repeat (first | refine blk_drewN ?_ _ | refine blk_drew ?_ | refine blk_alloc ?_ _)); refine blk_put (cs := #[.int .i64 ((rd_T58 (rd_L3 l0 ((rd_T182 l1 x19_1).f0)) ((rd_T182 l1 x19_1).f1)).f0), .slice none 0 0]) ?_ 1 _ rfl; (with_reducible repeat (first | refine blk_drewN ?_ _ | refine blk_drew ?_ | refine blk_alloc ?_ _)); refine blk_put (cs := #[.int .i64 0, .slice none 0 0]) ?_ 0 _ rfl; (with_reducible repeat (first | refine blk_drewN ?_ _ | refine blk_drew ?_ | refine blk_alloc ?_ _)); exact BK259.out⟩
               have n2_ : Aside0 (Below w.heap.size w ((w45.setCell ⟨gb259, 0, none⟩ (.int .i64 ((rd_T58 (rd_L3 l0 ((rd_T182 l1 x19_1).f0)) ((rd_T182 l1 x19_1).f1)).f0))).setCell ⟨gb259, 1, none⟩ (.slice A258_1 ((rd_T58 (rd_L3 l0 ((rd_T182 l1 x19_1).f0)) ((rd_T182 l1 x19_1).f1)).f1).length c258_1))) := ⟨by repeat (first | (with_reducible first | exact HB.out | apply below_alloc | apply pw_below_drewN | apply below_drew1 | refine below_set ?_ GE255.out | refine below_set ?_ GE259.out) | exact HB.out)⟩
               (try clear BK255)
               (try clear BK259)
               (try clear HB)
               generalize ((w45.setCell ⟨gb259, 0, none⟩ (.int .i64 ((rd_T58 (rd_L3 l0 ((rd_T182 l1 x19_1).f0)) ((rd_T182 l1 x19_1).f1)).f0))).setCell ⟨gb259, 1, none⟩ (.slice A258_1 ((rd_T58 (rd_L3 l0 ((rd_T182 l1 x19_1).f0)) ((rd_T182 l1 x19_1).f1)).f1).length c258_1)) = w48 at n0_ n1_ n2_ ⊢
               have BK255 := n0_
               have BK259 := n1_
               have HB := n2_
               clear n0_ n1_ n2_
               have n0_ := Aside0.mk (blk_drew BK255.out)
               have n1_ := Aside0.mk (blk_drew BK259.out)
               have n2_ := Aside0.mk (below_drew1 HB.out)
               clear BK255
               clear BK259
               clear HB
               have BK255 := n0_
               have BK259 := n1_
               have HB := n2_
               clear n0_ n1_ n2_
               refine start_ (n := 7) (S := fun w' => w'.cell? ⟨gb259, 0, none⟩ = some (.int .i64 ((rd_T58 (rd_L3 l0 ((rd_T182 l1 x19_1).f0)) ((rd_T182 l1 x19_1).f1)).f0)) ∧ w'.cell? ⟨gb259, 1, none⟩ = some (.slice A258_1 ((rd_T58 (rd_L3 l0 ((rd_T182 l1 x19_1).f0)) ((rd_T182 l1 x19_1).f1)).f1).length c258_1) ∧ w'.cell? ⟨gb255, 0, none⟩ = some (.int .i64 ((rd_T182 l1 x19_1).f0)) ∧ w'.cell? ⟨gb255, 1, none⟩ = some (.int .i64 ((rd_T182 l1 x19_1).f1)) ∧ w'.cell? ⟨gb255, 2, none⟩ = some (.int .i64 ((rd_T182 l1 x19_1).f2))) (ds := []) #[false, false, false, false, false, false, false] (by kernel_rfl) rfl rfl ⟨(blk_cell BK259.out 0).trans rfl, (blk_cell BK259.out 1).trans rfl, (blk_cell BK255.out 0).trans rfl, (blk_cell BK255.out 1).trans rfl, (blk_cell BK255.out 2).trans rfl⟩ (fun hHeld => ?_)
               generalize w48.drew = w49 at BK255 BK259 HB hHeld ⊢
               refine pure_ (i := 0) (N := some 69) (v := ?_) (a' := ?_) #[true, false, false, false, false, false, false] rfl rfl (by kernel_rfl) (fun _ _ _ h => h) (Or.inl ⟨by rfl, ?_⟩) ?_ ?_
               rotate_left
               ·intro w'
                go_simp
                with_reducible rfl
               rotate_left
               ·simp only [Act.put, List.setIfInBounds_toArray, List.set_cons_zero, List.set_cons_succ, i64_w, i32_w]
                rfl
               refine pure_ (i := 2) (N := some 71) (v := ?_) (a' := ?_) #[true, false, true, false, false, false, false] rfl rfl (by kernel_rfl) (fun _ _ _ h => h) (Or.inl ⟨by rfl, ?_⟩) ?_ ?_
               rotate_left
               ·intro w'
                go_simp
                with_reducible rfl
               rotate_left
               ·simp only [Act.put, List.setIfInBounds_toArray, List.set_cons_zero, List.set_cons_succ, i64_w, i32_w]
                rfl
               refine take_ (i := 1) (N := some 70) (v := ?_) (a' := ?_) #[true, true, true, false, false, false, false] rfl rfl (by kernel_rfl) (fun _ _ _ h => h) (Or.inl ⟨by rfl, ?_⟩) hHeld ?_ ?_
               rotate_left
               ·rintro w' ⟨s0, s1, s2, s3, s4⟩
                go_simp
                with_reducible rfl
               rotate_left
               ·simp only [Act.put, List.setIfInBounds_toArray, List.set_cons_zero, List.set_cons_succ, i64_w, i32_w]
                rfl
               refine take_ (i := 3) (N := some 72) (v := ?_) (a' := ?_) #[true, true, true, true, false, false, false] rfl rfl (by kernel_rfl) (fun _ _ _ h => h) (Or.inl ⟨by rfl, ?_⟩) hHeld ?_ ?_
               rotate_left
               ·rintro w' ⟨s0, s1, s2, s3, s4⟩
                go_simp
                with_reducible rfl
               rotate_left
               ·simp only [Act.put, List.setIfInBounds_toArray, List.set_cons_zero, List.set_cons_succ, i64_w, i32_w]
                rfl
               refine pure_ (i := 4) (N := some 73) (v := ?_) (a' := ?_) #[true, true, true, true, true, false, false] rfl rfl (by kernel_rfl) (fun _ _ _ h => h) (Or.inl ⟨by rfl, ?_⟩) ?_ ?_
               rotate_left
               ·intro w'
                go_simp
                with_reducible rfl
               rotate_left
               ·simp only [Act.put, List.setIfInBounds_toArray, List.set_cons_zero, List.set_cons_succ, i64_w, i32_w]
                rfl
               refine pure_ (i := 5) (N := some 74) (v := ?_) (a' := ?_) #[true, true, true, true, true, true, false] rfl rfl (by kernel_rfl) (fun _ _ _ h => h) (Or.inl ⟨by rfl, ?_⟩) ?_ ?_
               rotate_left
               ·intro w'
                go_simp
                with_reducible rfl
               rotate_left
               ·simp only [Act.put, List.setIfInBounds_toArray, List.set_cons_zero, List.set_cons_succ, i64_w, i32_w]
                rfl
               refine pure_ (i := 6) (N := some 75) (v := ?_) (a' := ?_) #[true, true, true, true, true, true, true] rfl rfl (by kernel_rfl) (fun _ _ _ h => h) (Or.inl ⟨by rfl, ?_⟩) ?_ ?_
               rotate_left
               ·intro w'
                go_simp
                with_reducible rfl
               rotate_left
               ·simp only [Act.put, List.setIfInBounds_toArray, List.set_cons_zero, List.set_cons_succ, i64_w, i32_w]
                rfl
               refine done_ (by kernel_rfl) ?_
               have hnb50 := NB259_255.out
               have hnc50 := NB255_259.out
               have hcz51_0 : w49.cell? ⟨gb259, 0, none⟩ = some (.int .i64 ((rd_T58 (rd_L3 l0 ((rd_T182 l1 x19_1).f0)) ((rd_T182 l1 x19_1).f1)).f0)) := (blk_cell BK259.out 0).trans rfl
               have hcz51_1 : w49.cell? ⟨gb259, 1, none⟩ = some (.slice A258_1 ((rd_T58 (rd_L3 l0 ((rd_T182 l1 x19_1).f0)) ((rd_T182 l1 x19_1).f1)).f1).length c258_1) := (blk_cell BK259.out 1).trans rfl
               have hfz51_0 := blk_frozen BK259.out 0
               have hfz51_1 := blk_frozen BK259.out 1
               try go_wp2
               go_loopg [79] kj7 (fun kq v79 w' => ∃ (x79_3 : Int), v79 = .int .i64 x79_3 ∧ Aside0 (glossatorref3_Proves.l1 kq l0 l1 a2 a3 x19_1 l1 (l1.length : Int) x19_1 ((rd_T58 (rd_L3 l0 ((rd_T182 l1 x19_1).f0)) ((rd_T182 l1 x19_1).f1)).f1) (((rd_T58 (rd_L3 l0 ((rd_T182 l1 x19_1).f0)) ((rd_T182 l1 x19_1).f1)).f1).length : Int) x79_3 ((rd_T182 l1 x19_1).f0) ((rd_T182 l1 x19_1).f1) ((rd_T182 l1 x19_1).f2) = some r) ∧ Aside0 (kq ≤ kj7) ∧ Aside0 (w'.heap[gb255]? = some (.cells #[.int .i64 ((rd_T182 l1 x19_1).f0), .int .i64 ((rd_T182 l1 x19_1).f1), .int .i64 ((rd_T182 l1 x19_1).f2)] 182 (0, 0))) ∧ Aside0 (w'.heap[gb259]? = some (.cells #[.int .i64 ((rd_T58 (rd_L3 l0 ((rd_T182 l1 x19_1).f0)) ((rd_T182 l1 x19_1).f1)).f0), (.slice A258_1 ((rd_T58 (rd_L3 l0 ((rd_T182 l1 x19_1).f0)) ((rd_T182 l1 x19_1).f1)).f1).length c258_1)] 58 (0, 0))) ∧ Aside0 (Below w.heap.size w w'))
               case atStart => exact ⟨(0), (by first | rfl | (simp; done) | (simp [*]; done) | (simp [isEmpty_bne]; done)), H', ⟨Nat.le_refl _⟩, ⟨by (with_reducible repeat (first | refine blk_drewN ?_ _ | refine blk_drew ?_ | refine blk_alloc ?_ _)); exact BK255.out⟩, ⟨by (with_reducible repeat (first | refine blk_drewN ?_ _ | refine blk_drew ?_ | refine blk_alloc ?_ _)); exact BK259.out⟩, ⟨by repeat (first | (with_reducible first | exact HB.out | apply below_alloc | apply pw_below_drewN | apply below_drew1 | refine below_set ?_ GE255.out | refine below_set ?_ GE259.out) | exact HB.out)⟩⟩
               case round =>
                clear H'
                try clear c2
                try clear p2
                try clear q2
                try clear hx2
                try clear c3
                try clear c5
                try clear p6
                try clear c23
                try clear c23b0
                try clear c25
                try clear p25
                try clear q25
                try clear hx25
                try clear c26
                try clear c26b0
                try clear c27
                try clear c27b0
                try clear c30
                try clear c31
                try clear c31b0
                try clear c32
                try clear c32b0
                try clear c33
                try clear c33b0
                try clear c34
                try clear c34b0
                try clear c35
                try clear c35b0
                try clear c35b1
                try clear c37
                try clear c37b0
                try clear c37b1
                try clear c50
                try clear hcz51_0
                try clear hcz51_1
                try clear hfz51_0
                try clear hfz51_1
                try clear hx256_0
                try clear hx257_0
                try clear hx258_0
                try clear hx258_1
                try clear p2
                try clear p25
                try clear p256
                try clear p257
                try clear p258
                try clear q2
                try clear q25
                try clear q256
                try clear q257
                try clear q258
                obtain ⟨x79_3, rfl, HA, HK3, BK255, BK259, HB⟩ := hrel
                cases gk with
                | zero => exact absurd HA.out (by simp [glossatorref3_Proves.l1])
                | succ k3 =>
                 have H := HA.out
                 clear HA
                 simp only [glossatorref3_Proves.l1] at H
                 by_cases c52 : x79_3 < (((rd_T58 (rd_L3 l0 ((rd_T182 l1 x19_1).f0)) ((rd_T182 l1 x19_1).f1)).f1).length : Int)
                 ·rw [if_pos c52] at H
                  have c52b0 : decide (x79_3 < (((rd_T58 (rd_L3 l0 ((rd_T182 l1 x19_1).f0)) ((rd_T182 l1 x19_1).f1)).f1).length : Int)) = true := decide_eq_true c52
                  clear c52
                  by_cases c53 : 0 ≤ x79_3
                  ·rw [if_pos c53] at H
                   have c53b0 : decide (0 ≤ x79_3) = true := decide_eq_true c53
                   clear c53
                   by_cases c54 : x79_3 < (((rd_T58 (rd_L3 l0 ((rd_T182 l1 x19_1).f0)) ((rd_T182 l1 x19_1).f1)).f1).length : Int)
                   ·rw [if_pos c54] at H
                    have c54b0 : decide (x79_3 < (((rd_T58 (rd_L3 l0 ((rd_T182 l1 x19_1).f0)) ((rd_T182 l1 x19_1).f1)).f1).length : Int)) = true := decide_eq_true c54
                    clear c54
                    by_cases c55 : 0 ≤ x19_1
                    ·rw [if_pos c55] at H
                     have c55b0 := eq_true c55
                     have c55b1 : decide (0 ≤ x19_1) = true := decide_eq_true c55
                     clear c55
                     by_cases c56 : x19_1 ≤ (l1.length : Int)
                     ·rw [if_pos c56] at H
                      have c56b0 := eq_true c56
                      have c56b1 : decide (x19_1 ≤ (l1.length : Int)) = true := decide_eq_true c56
                      clear c56
                      obtain ⟨y261, hy261⟩ : ∃ y_ : List (S182), y_ = (l1.take (x19_1 : Int).toNat) := ⟨_, rfl⟩
                      replace H : (glossatorref3_Proves.l2 k3 l0 l1 a2 a3 x19_1 (rd ((rd_T58 (rd_L3 l0 ((rd_T182 l1 x19_1).f0)) ((rd_T182 l1 x19_1).f1)).f1) x79_3) false l1 (l1.length : Int) x19_1 ((rd_T58 (rd_L3 l0 ((rd_T182 l1 x19_1).f0)) ((rd_T182 l1 x19_1).f1)).f1) (((rd_T58 (rd_L3 l0 ((rd_T182 l1 x19_1).f0)) ((rd_T182 l1 x19_1).f1)).f1).length : Int) x79_3 y261 (y261.length : Int) 0 ((rd_T182 l1 x19_1).f0) ((rd_T182 l1 x19_1).f1) ((rd_T182 l1 x19_1).f2)) = some r := by first | (rw [hy261]; with_reducible exact H) | (have H2_ := (Option.bind_some _ _).symm.trans H; rw [hy261]; with_reducible exact H2_) | (have H2_ := (Option.bind_some _ _).symm.trans H; with_reducible exact H2_) | with_reducible exact H | (rw [hy261]; exact H) | exact H
                      have Ny261 := Aside0.mk hy261
                      clear hy261
                      have H' := Aside0.mk H
                      clear H
                      have p260 : 0 ≤ (x79_3 : Int) := of_decide_eq_true (by first | (with_reducible assumption) | assumption)
                      have q260 : x79_3 < (((rd_T58 (rd_L3 l0 ((rd_T182 l1 x19_1).f0)) ((rd_T182 l1 x19_1).f1)).f1).length : Int) := of_decide_eq_true (by first | (with_reducible assumption) | assumption)
                      obtain ⟨ad260, e260, hx260_0⟩ := Kd.at_int HR258_1.out x79_3 p260 q260
                      cases e260
                      replace hx260_0 := (HB.out.cell (World.block_lt_of_cell? w _ hx260_0)).trans hx260_0
                      replace p260 := eq_true p260
                      replace q260 := eq_true q260
                      have q57 : (x19_1 : Int) ≤ ((l1.length : Int) : Int) := of_decide_eq_true (by first | (with_reducible assumption) | assumption)
                      obtain ⟨i057, hi057, _, hsz57, _⟩ := info_parts info182
                      have hroom57 : l1.length ≤ c1 := HC1.out
                      have hC57 : Kd.C k182 _ (some ad254) l1.length l1 := HR1.out
                      have hcut57 := cut_to (P := Try.prog) 69 182 .i64 Try.underlying69 hi057 (some ad254) l1.length c1 x19_1 (of_decide_eq_true (by first | (with_reducible assumption) | assumption)) q57 hroom57
                      have hr57 := Kd.C_take (m := (x19_1 : Int).toNat) hC57 (by omega)
                      have hy57 : y261.length = (x19_1 : Int).toNat := (by rw [Ny261.out, List.length_take]; omega)
                      rw [← Ny261.out] at hr57
                      rw [← hy57] at hcut57
                      have HR264 := Aside0.mk hr57
                      have HC264 := Aside0.mk (show y261.length ≤ c1 from by omega)
                      clear hr57 hC57 hroom57 hi057 hsz57
                      have KY57 := Aside0.mk hy57
                      clear hy57
                      replace q57 := eq_true q57
                      go_wp2
                      go_loopg [14, 87] k3 (fun kq v14 v87 w' => ∃ (x14_4 : Bool) (x87_4 : Int), v14 = .bool x14_4 ∧ v87 = .int .i64 x87_4 ∧ Aside0 (glossatorref3_Proves.l2 kq l0 l1 a2 a3 x19_1 (rd ((rd_T58 (rd_L3 l0 ((rd_T182 l1 x19_1).f0)) ((rd_T182 l1 x19_1).f1)).f1) x79_3) x14_4 l1 (l1.length : Int) x19_1 ((rd_T58 (rd_L3 l0 ((rd_T182 l1 x19_1).f0)) ((rd_T182 l1 x19_1).f1)).f1) (((rd_T58 (rd_L3 l0 ((rd_T182 l1 x19_1).f0)) ((rd_T182 l1 x19_1).f1)).f1).length : Int) x79_3 y261 (y261.length : Int) x87_4 ((rd_T182 l1 x19_1).f0) ((rd_T182 l1 x19_1).f1) ((rd_T182 l1 x19_1).f2) = some r) ∧ Aside0 (kq ≤ k3) ∧ Aside0 (w'.heap[gb255]? = some (.cells #[.int .i64 ((rd_T182 l1 x19_1).f0), .int .i64 ((rd_T182 l1 x19_1).f1), .int .i64 ((rd_T182 l1 x19_1).f2)] 182 (0, 0))) ∧ Aside0 (w'.heap[gb259]? = some (.cells #[.int .i64 ((rd_T58 (rd_L3 l0 ((rd_T182 l1 x19_1).f0)) ((rd_T182 l1 x19_1).f1)).f0), (.slice (some ad260) ((rd_T58 (rd_L3 l0 ((rd_T182 l1 x19_1).f0)) ((rd_T182 l1 x19_1).f1)).f1).length c258_1)] 58 (0, 0))) ∧ Aside0 (Below w.heap.size w w'))
                      case atStart => exact ⟨(false), (0), (by first | rfl | (simp; done) | (simp [*]; done) | (simp [isEmpty_bne]; done)), (by first | rfl | (simp; done) | (simp [*]; done) | (simp [isEmpty_bne]; done)), H', ⟨Nat.le_refl _⟩, ⟨by (with_reducible repeat (first | refine blk_drewN ?_ _ | refine blk_drew ?_ | refine blk_alloc ?_ _)); exact BK255.out⟩, ⟨by (with_reducible repeat (first | refine blk_drewN ?_ _ | refine blk_drew ?_ | refine blk_alloc ?_ _)); exact BK259.out⟩, ⟨by repeat (first | (with_reducible first | exact HB.out | apply below_alloc | apply pw_below_drewN | apply below_drew1 | refine below_set ?_ GE255.out | refine below_set ?_ GE259.out) | exact HB.out)⟩⟩
                      case round =>
                       clear H'
                       try clear c1
                       try clear c2
                       try clear p2
                       try clear q2
                       try clear hx2
                       try clear c3
                       try clear c5
                       try clear q5
                       try clear p6
                       try clear c23
                       try clear c23b0
                       try clear c25
                       try clear p25
                       try clear q25
                       try clear hx25
                       try clear c26
                       try clear c26b0
                       try clear p26
                       try clear q26
                       try clear hx26
                       try clear c27
                       try clear c27b0
                       try clear c30
                       try clear c31
                       try clear c31b0
                       try clear c32
                       try clear c32b0
                       try clear c33
                       try clear c33b0
                       try clear c34
                       try clear c34b0
                       try clear c35
                       try clear c35b0
                       try clear c35b1
                       try clear c37
                       try clear c37b0
                       try clear c37b1
                       try clear c50
                       try clear c52
                       try clear c52b0
                       try clear c53
                       try clear c53b0
                       try clear c54
                       try clear c54b0
                       try clear c55
                       try clear c55b0
                       try clear c55b1
                       try clear c56
                       try clear c56b0
                       try clear c56b1
                       try clear q57
                       try clear hcz51_0
                       try clear hcz51_1
                       try clear hfz51_0
                       try clear hfz51_1
                       try clear hx256_0
                       try clear hx257_0
                       try clear hx258_0
                       try clear hx258_1
                       try clear hx260_0
                       try clear p2
                       try clear p25
                       try clear p256
                       try clear p257
                       try clear p258
                       try clear p260
                       try clear p6
                       try clear q2
                       try clear q25
                       try clear q256
                       try clear q257
                       try clear q258
                       try clear q260
                       try clear q57
                       obtain ⟨x14_4, x87_4, rfl, rfl, HA, HK4, BK255, BK259, HB⟩ := hrel
                       cases gk with
                       | zero => exact absurd HA.out (by simp [glossatorref3_Proves.l2])
                       | succ k4 =>
                        have H := HA.out
                        clear HA
                        simp only [glossatorref3_Proves.l2] at H
                        by_cases c58 : x87_4 < (y261.length : Int)
                        ·rw [if_pos c58] at H
                         have c58b0 : decide (x87_4 < (y261.length : Int)) = true := decide_eq_true c58
                         clear c58
                         by_cases c59 : 0 ≤ x87_4
                         ·rw [if_pos c59] at H
                          have c59b0 : decide (0 ≤ x87_4) = true := decide_eq_true c59
                          clear c59
                          by_cases c60 : x87_4 < (y261.length : Int)
                          ·rw [if_pos c60] at H
                           have c60b0 : decide (x87_4 < (y261.length : Int)) = true := decide_eq_true c60
                           clear c60
                           by_cases c61 : x14_4 = true
                           ·subst c61
                            have H1 : (glossatorref3_Proves.l2 k4 l0 l1 a2 a3 x19_1 (rd ((rd_T58 (rd_L3 l0 ((rd_T182 l1 x19_1).f0)) ((rd_T182 l1 x19_1).f1)).f1) x79_3) true l1 (l1.length : Int) x19_1 ((rd_T58 (rd_L3 l0 ((rd_T182 l1 x19_1).f0)) ((rd_T182 l1 x19_1).f1)).f1) (((rd_T58 (rd_L3 l0 ((rd_T182 l1 x19_1).f0)) ((rd_T182 l1 x19_1).f1)).f1).length : Int) x79_3 y261 (y261.length : Int) (wrap64 (x87_4 + 1)) ((rd_T182 l1 x19_1).f0) ((rd_T182 l1 x19_1).f1) ((rd_T182 l1 x19_1).f2)) = some r := by rw [if_pos rfl] at H; exact H
                            clear H
                            have H := H1
                            clear H1
                            have H' := Aside0.mk H
                            clear H
                            have p265 : 0 ≤ (x87_4 : Int) := of_decide_eq_true (by first | (with_reducible assumption) | assumption)
                            have q265 : x87_4 < (y261.length : Int) := of_decide_eq_true (by first | (with_reducible assumption) | assumption)
                            obtain ⟨ad265, e265, hx265_0, hx265_1, hx265_2⟩ := at_T182 HR264.out x87_4 p265 q265
                            obtain rfl : ad254 = ad265 := (by injection e265)
                            replace hx265_0 := (HB.out.cell (World.block_lt_of_cell? w _ hx265_0)).trans hx265_0
                            replace hx265_1 := (HB.out.cell (World.block_lt_of_cell? w _ hx265_1)).trans hx265_1
                            replace hx265_2 := (HB.out.cell (World.block_lt_of_cell? w _ hx265_2)).trans hx265_2
                            replace p265 := eq_true p265
                            replace q265 := eq_true q265
                            go_wp2_with (first | ((with_reducible refine gate_dst (N := 16) rfl ?_); (try (refine gate_guard (by rfl) ?_; dsimp only)); refine box_event ?hg (N := 16) ?hd (cs := #[.int .i64 0, .int .i64 0, .int .i64 0]) (t := 182) ?hr ?_; (case hd => rfl); (case hg => rfl); (case hr => first | (go_simp; done) | (go_simp; rfl)); intro gb266 hg w62 hbox hb; have n0_ := Aside0.mk (blk_below (g := gb255) (o := .cells #[.int .i64 ((rd_T182 l1 x19_1).f0), .int .i64 ((rd_T182 l1 x19_1).f1), .int .i64 ((rd_T182 l1 x19_1).f2)] 182 (0, 0)) (by (with_reducible repeat (first | refine blk_drewN ?_ _ | refine blk_drew ?_ | refine blk_alloc ?_ _)); exact BK255.out) hb); have n1_ := Aside0.mk (blk_below (g := gb259) (o := .cells #[.int .i64 ((rd_T58 (rd_L3 l0 ((rd_T182 l1 x19_1).f0)) ((rd_T182 l1 x19_1).f1)).f0), .slice (some ad260) ((rd_T58 (rd_L3 l0 ((rd_T182 l1 x19_1).f0)) ((rd_T182 l1 x19_1).f1)).f1).length c258_1] 58 (0, 0)) (by (with_reducible repeat (first | refine blk_drewN ?_ _ | refine blk_drew ?_ | refine blk_alloc ?_ _)); exact BK259.out) hb); have n2_ := Aside0.mk (below_step (by repeat (first | (with_reducible first | exact HB.out | apply below_alloc | apply pw_below_drewN | apply below_drew1 | refine below_set ?_ GE255.out | refine below_set ?_ GE259.out) | exact HB.out)) hb); have n3_ := Aside0.mk (hbox); have n4_ := Aside0.mk ((by rw [hg]; exact (below_size (by repeat (first | (with_reducible first | exact HB.out | apply below_alloc | apply pw_below_drewN | apply below_drew1 | refine below_set ?_ GE255.out | refine below_set ?_ GE259.out) | exact HB.out))) : w.heap.size ≤ gb266)); have n5_ := Aside0.mk ((by rw [hg]; exact (below_size (by repeat (first | (with_reducible first | exact HB.out | apply below_alloc | apply pw_below_drewN | apply below_drew1 | refine below_set ?_ GE255.out | refine below_set ?_ GE259.out) | exact HB.out))) : w.heap.size ≤ gb266)); have n6_ := Aside0.mk ((by rw [hg]; exact Nat.ne_of_lt (blk_lt (g := gb255) (o := .cells #[.int .i64 ((rd_T182 l1 x19_1).f0), .int .i64 ((rd_T182 l1 x19_1).f1), .int .i64 ((rd_T182 l1 x19_1).f2)] 182 (0, 0)) (by (with_reducible repeat (first | refine blk_drewN ?_ _ | refine blk_drew ?_ | refine blk_alloc ?_ _)); exact BK255.out)) : gb255 ≠ gb266)); have n7_ := Aside0.mk ((by rw [hg]; exact Nat.ne_of_gt (blk_lt (g := gb255) (o := .cells #[.int .i64 ((rd_T182 l1 x19_1).f0), .int .i64 ((rd_T182 l1 x19_1).f1), .int .i64 ((rd_T182 l1 x19_1).f2)] 182 (0, 0)) (by (with_reducible repeat (first | refine blk_drewN ?_ _ | refine blk_drew ?_ | refine blk_alloc ?_ _)); exact BK255.out)) : gb266 ≠ gb255)); have n8_ := Aside0.mk ((by rw [hg]; exact Nat.ne_of_lt (blk_lt (g := gb259) (o := .cells #[.int .i64 ((rd_T58 (rd_L3 l0 ((rd_T182 l1 x19_1).f0)) ((rd_T182 l1 x19_1).f1)).f0), .slice (some ad260) ((rd_T58 (rd_L3 l0 ((rd_T182 l1 x19_1).f0)) ((rd_T182 l1 x19_1).f1)).f1).length c258_1] 58 (0, 0)) (by (with_reducible repeat (first | refine blk_drewN ?_ _ | refine blk_drew ?_ | refine blk_alloc ?_ _)); exact BK259.out)) : gb259 ≠ gb266)); have n9_ := Aside0.mk ((by rw [hg]; exact Nat.ne_of_gt (blk_lt (g := gb259) (o := .cells #[.int .i64 ((rd_T58 (rd_L3 l0 ((rd_T182 l1 x19_1).f0)) ((rd_T182 l1 x19_1).f1)).f0), .slice (some ad260) ((rd_T58 (rd_L3 l0 ((rd_T182 l1 x19_1).f0)) ((rd_T182 l1 x19_1).f1)).f1).length c258_1] 58 (0, 0)) (by (with_reducible repeat (first | refine blk_drewN ?_ _ | refine blk_drew ?_ | refine blk_alloc ?_ _)); exact BK259.out)) : gb266 ≠ gb259)); clear BK255; clear BK259; clear HB; have BK255 := n0_; have BK259 := n1_; have HB := n2_; have BK266 := n3_; have GW266 := n4_; have GE266 := n5_; have NB255_266 := n6_; have NB266_255 := n7_; have NB259_266 := n8_; have NB266_259 := n9_; clear n0_ n1_ n2_ n3_ n4_ n5_ n6_ n7_ n8_ n9_; clear hb hbox hg; have hnb63 := NB266_255.out; have hnc63 := NB255_266.out; have hnb64 := NB266_259.out; have hnc64 := NB259_266.out; have hcz65_0 : w62.cell? ⟨gb266, 0, none⟩ = some (.int .i64 0) := (blk_cell BK266.out 0).trans rfl; have hcz65_1 : w62.cell? ⟨gb266, 1, none⟩ = some (.int .i64 0) := (blk_cell BK266.out 1).trans rfl; have hcz65_2 : w62.cell? ⟨gb266, 2, none⟩ = some (.int .i64 0) := (blk_cell BK266.out 2).trans rfl; have hfz65_0 := blk_frozen BK266.out 0; have hfz65_1 := blk_frozen BK266.out 1; have hfz65_2 := blk_frozen BK266.out 2))
                            go_roundg k4
                            case measure => have := HK1.out; have := HJ7.out; have := HK3.out; have := HK4.out; omega
                            case rel => exact ⟨(true), (wrap64 (x87_4 + 1)), (by first | rfl | (simp; done) | (simp [*]; done) | (simp [isEmpty_bne]; done)), (by first | rfl | (simp; done) | (simp [*]; done) | (simp [isEmpty_bne]; done)), H', ⟨by have := HK1.out; have := HJ7.out; have := HK3.out; have := HK4.out; omega⟩, ⟨by (with_reducible repeat (first | refine blk_drewN ?_ _ | refine blk_drew ?_ | refine blk_alloc ?_ _)); refine blk_far ?_ NB255_266.out _; (with_reducible repeat (first | refine blk_drewN ?_ _ | refine blk_drew ?_ | refine blk_alloc ?_ _)); refine blk_far ?_ NB255_266.out _; (with_reducible repeat (first | refine blk_drewN ?_ _ | refine blk_drew ?_ | refine blk_alloc ?_ _)); refine blk_far ?_ NB255_266.out _; (with_reducible repeat (first | refine blk_drewN ?_ _ | refine blk_drew ?_ | refine blk_alloc ?_ _)); exact BK255.out⟩, ⟨by (with_reducible repeat (first | refine blk_drewN ?_ _ | refine blk_drew ?_ | refine blk_alloc ?_ _)); refine blk_far ?_ NB259_266.out _; (with_reducible repeat (first | refine blk_drewN ?_ _ | refine blk_drew ?_ | refine blk_alloc ?_ _)); refine blk_far ?_ NB259_266.out _; (with_reducible repeat (first | refine blk_drewN ?_ _ | refine blk_drew ?_ | refine blk_alloc ?_ _)); refine blk_far ?_ NB259_266.out _; (with_reducible repeat (first | refine blk_drewN ?_ _ | refine blk_drew ?_ | refine blk_alloc ?_ _)); exact BK259.out⟩, ⟨by repeat (first | (with_reducible first | exact HB.out | apply below_alloc | apply pw_below_drewN | apply below_drew1 | refine below_set ?_ GE255.out | refine below_set ?_ GE259.out | refine below_set ?_ GE266.out) | exact HB.out)⟩⟩
                           ·replace c61 := Bool.eq_false_iff.mpr c61
                            subst c61
                            have H1 : (if ((rd_T182 y261 x87_4).f0) = (rd ((rd_T58 (rd_L3 l0 ((rd_T182 l1 x19_1).f0)) ((rd_T182 l1 x19_1).f1)).f1) x79_3) then (glossatorref3_Proves.l2 k4 l0 l1 a2 a3 x19_1 (rd ((rd_T58 (rd_L3 l0 ((rd_T182 l1 x19_1).f0)) ((rd_T182 l1 x19_1).f1)).f1) x79_3) (((rd_T182 y261 x87_4).f2) == ((rd_T182 l1 x19_1).f2)) l1 (l1.length : Int) x19_1 ((rd_T58 (rd_L3 l0 ((rd_T182 l1 x19_1).f0)) ((rd_T182 l1 x19_1).f1)).f1) (((rd_T58 (rd_L3 l0 ((rd_T182 l1 x19_1).f0)) ((rd_T182 l1 x19_1).f1)).f1).length : Int) x79_3 y261 (y261.length : Int) (wrap64 (x87_4 + 1)) ((rd_T182 l1 x19_1).f0) ((rd_T182 l1 x19_1).f1) ((rd_T182 l1 x19_1).f2)) else (glossatorref3_Proves.l2 k4 l0 l1 a2 a3 x19_1 (rd ((rd_T58 (rd_L3 l0 ((rd_T182 l1 x19_1).f0)) ((rd_T182 l1 x19_1).f1)).f1) x79_3) false l1 (l1.length : Int) x19_1 ((rd_T58 (rd_L3 l0 ((rd_T182 l1 x19_1).f0)) ((rd_T182 l1 x19_1).f1)).f1) (((rd_T58 (rd_L3 l0 ((rd_T182 l1 x19_1).f0)) ((rd_T182 l1 x19_1).f1)).f1).length : Int) x79_3 y261 (y261.length : Int) (wrap64 (x87_4 + 1)) ((rd_T182 l1 x19_1).f0) ((rd_T182 l1 x19_1).f1) ((rd_T182 l1 x19_1).f2))) = some r := by rw [if_neg (show ¬ (false = true) by decide)] at H; exact H
                            clear H
                            have H := H1
                            clear H1
                            by_cases c66 : ((rd_T182 y261 x87_4).f0) = (rd ((rd_T58 (rd_L3 l0 ((rd_T182 l1 x19_1).f0)) ((rd_T182 l1 x19_1).f1)).f1) x79_3)
                            ·rw [if_pos c66] at H
                             have c66b0 : (((rd_T182 y261 x87_4).f0) == (rd ((rd_T58 (rd_L3 l0 ((rd_T182 l1 x19_1).f0)) ((rd_T182 l1 x19_1).f1)).f1) x79_3)) = true := beq_iff_eq.mpr c66
                             have c66b1 : (((rd_T182 y261 x87_4).f0) != (rd ((rd_T58 (rd_L3 l0 ((rd_T182 l1 x19_1).f0)) ((rd_T182 l1 x19_1).f1)).f1) x79_3)) = false := bne_eq_false_iff_eq.mpr c66
                             clear c66
                             have H' := Aside0.mk H
                             clear H
                             have p265 : 0 ≤ (x87_4 : Int) := of_decide_eq_true (by first | (with_reducible assumption) | assumption)
                             have q265 : x87_4 < (y261.length : Int) := of_decide_eq_true (by first | (with_reducible assumption) | assumption)
                             obtain ⟨ad265, e265, hx265_0, hx265_1, hx265_2⟩ := at_T182 HR264.out x87_4 p265 q265
                             obtain rfl : ad254 = ad265 := (by injection e265)
                             replace hx265_0 := (HB.out.cell (World.block_lt_of_cell? w _ hx265_0)).trans hx265_0
                             replace hx265_1 := (HB.out.cell (World.block_lt_of_cell? w _ hx265_1)).trans hx265_1
                             replace hx265_2 := (HB.out.cell (World.block_lt_of_cell? w _ hx265_2)).trans hx265_2
                             replace p265 := eq_true p265
                             replace q265 := eq_true q265
                             go_wp2_with (first | ((with_reducible refine gate_dst (N := 16) rfl ?_); (try (refine gate_guard (by rfl) ?_; dsimp only)); refine box_event ?hg (N := 16) ?hd (cs := #[.int .i64 0, .int .i64 0, .int .i64 0]) (t := 182) ?hr ?_; (case hd => rfl); (case hg => rfl); (case hr => first | (go_simp; done) | (go_simp; rfl)); intro gb266 hg w67 hbox hb; have n0_ := Aside0.mk (blk_below (g := gb255) (o := .cells #[.int .i64 ((rd_T182 l1 x19_1).f0), .int .i64 ((rd_T182 l1 x19_1).f1), .int .i64 ((rd_T182 l1 x19_1).f2)] 182 (0, 0)) (by (with_reducible repeat (first | refine blk_drewN ?_ _ | refine blk_drew ?_ | refine blk_alloc ?_ _)); exact BK255.out) hb); have n1_ := Aside0.mk (blk_below (g := gb259) (o := .cells #[.int .i64 ((rd_T58 (rd_L3 l0 ((rd_T182 l1 x19_1).f0)) ((rd_T182 l1 x19_1).f1)).f0), .slice (some ad260) ((rd_T58 (rd_L3 l0 ((rd_T182 l1 x19_1).f0)) ((rd_T182 l1 x19_1).f1)).f1).length c258_1] 58 (0, 0)) (by (with_reducible repeat (first | refine blk_drewN ?_ _ | refine blk_drew ?_ | refine blk_alloc ?_ _)); exact BK259.out) hb); have n2_ := Aside0.mk (below_step (by repeat (first | (with_reducible first | exact HB.out | apply below_alloc | apply pw_below_drewN | apply below_drew1 | refine below_set ?_ GE255.out | refine below_set ?_ GE259.out) | exact HB.out)) hb); have n3_ := Aside0.mk (hbox); have n4_ := Aside0.mk ((by rw [hg]; exact (below_size (by repeat (first | (with_reducible first | exact HB.out | apply below_alloc | apply pw_below_drewN | apply below_drew1 | refine below_set ?_ GE255.out | refine below_set ?_ GE259.out) | exact HB.out))) : w.heap.size ≤ gb266)); have n5_ := Aside0.mk ((by rw [hg]; exact (below_size (by repeat (first | (with_reducible first | exact HB.out | apply below_alloc | apply pw_below_drewN | apply below_drew1 | refine below_set ?_ GE255.out | refine below_set ?_ GE259.out) | exact HB.out))) : w.heap.size ≤ gb266)); have n6_ := Aside0.mk ((by rw [hg]; exact Nat.ne_of_lt (blk_lt (g := gb255) (o := .cells #[.int .i64 ((rd_T182 l1 x19_1).f0), .int .i64 ((rd_T182 l1 x19_1).f1), .int .i64 ((rd_T182 l1 x19_1).f2)] 182 (0, 0)) (by (with_reducible repeat (first | refine blk_drewN ?_ _ | refine blk_drew ?_ | refine blk_alloc ?_ _)); exact BK255.out)) : gb255 ≠ gb266)); have n7_ := Aside0.mk ((by rw [hg]; exact Nat.ne_of_gt (blk_lt (g := gb255) (o := .cells #[.int .i64 ((rd_T182 l1 x19_1).f0), .int .i64 ((rd_T182 l1 x19_1).f1), .int .i64 ((rd_T182 l1 x19_1).f2)] 182 (0, 0)) (by (with_reducible repeat (first | refine blk_drewN ?_ _ | refine blk_drew ?_ | refine blk_alloc ?_ _)); exact BK255.out)) : gb266 ≠ gb255)); have n8_ := Aside0.mk ((by rw [hg]; exact Nat.ne_of_lt (blk_lt (g := gb259) (o := .cells #[.int .i64 ((rd_T58 (rd_L3 l0 ((rd_T182 l1 x19_1).f0)) ((rd_T182 l1 x19_1).f1)).f0), .slice (some ad260) ((rd_T58 (rd_L3 l0 ((rd_T182 l1 x19_1).f0)) ((rd_T182 l1 x19_1).f1)).f1).length c258_1] 58 (0, 0)) (by (with_reducible repeat (first | refine blk_drewN ?_ _ | refine blk_drew ?_ | refine blk_alloc ?_ _)); exact BK259.out)) : gb259 ≠ gb266)); have n9_ := Aside0.mk ((by rw [hg]; exact Nat.ne_of_gt (blk_lt (g := gb259) (o := .cells #[.int .i64 ((rd_T58 (rd_L3 l0 ((rd_T182 l1 x19_1).f0)) ((rd_T182 l1 x19_1).f1)).f0), .slice (some ad260) ((rd_T58 (rd_L3 l0 ((rd_T182 l1 x19_1).f0)) ((rd_T182 l1 x19_1).f1)).f1).length c258_1] 58 (0, 0)) (by (with_reducible repeat (first | refine blk_drewN ?_ _ | refine blk_drew ?_ | refine blk_alloc ?_ _)); exact BK259.out)) : gb266 ≠ gb259)); clear BK255; clear BK259; clear HB; have BK255 := n0_; have BK259 := n1_; have HB := n2_; have BK266 := n3_; have GW266 := n4_; have GE266 := n5_; have NB255_266 := n6_; have NB266_255 := n7_; have NB259_266 := n8_; have NB266_259 := n9_; clear n0_ n1_ n2_ n3_ n4_ n5_ n6_ n7_ n8_ n9_; clear hb hbox hg; have hnb68 := NB266_255.out; have hnc68 := NB255_266.out; have hnb69 := NB266_259.out; have hnc69 := NB259_266.out; have hcz70_0 : w67.cell? ⟨gb266, 0, none⟩ = some (.int .i64 0) := (blk_cell BK266.out 0).trans rfl; have hcz70_1 : w67.cell? ⟨gb266, 1, none⟩ = some (.int .i64 0) := (blk_cell BK266.out 1).trans rfl; have hcz70_2 : w67.cell? ⟨gb266, 2, none⟩ = some (.int .i64 0) := (blk_cell BK266.out 2).trans rfl; have hfz70_0 := blk_frozen BK266.out 0; have hfz70_1 := blk_frozen BK266.out 1; have hfz70_2 := blk_frozen BK266.out 2; have hnb71 := NB255_259.out; have hnc71 := NB259_255.out; have hcz72_0 : w67.cell? ⟨gb255, 0, none⟩ = some (.int .i64 ((rd_T182 l1 x19_1).f0)) := (blk_cell BK255.out 0).trans rfl; have hcz72_1 : w67.cell? ⟨gb255, 1, none⟩ = some (.int .i64 ((rd_T182 l1 x19_1).f1)) := (blk_cell BK255.out 1).trans rfl; have hcz72_2 : w67.cell? ⟨gb255, 2, none⟩ = some (.int .i64 ((rd_T182 l1 x19_1).f2)) := (blk_cell BK255.out 2).trans rfl; have hfz72_0 := blk_frozen BK255.out 0; have hfz72_1 := blk_frozen BK255.out 1; have hfz72_2 := blk_frozen BK255.out 2))
                             go_roundg k4
                             case measure => have := HK1.out; have := HJ7.out; have := HK3.out; have := HK4.out; omega
                             case rel => exact ⟨((((rd_T182 y261 x87_4).f2) == ((rd_T182 l1 x19_1).f2))), (wrap64 (x87_4 + 1)), (by first | rfl | (simp; done) | (simp [*]; done) | (simp [isEmpty_bne]; done)), (by first | rfl | (simp; done) | (simp [*]; done) | (simp [isEmpty_bne]; done)), H', ⟨by have := HK1.out; have := HJ7.out; have := HK3.out; have := HK4.out; omega⟩, ⟨by (with_reducible repeat (first | refine blk_drewN ?_ _ | refine blk_drew ?_ | refine blk_alloc ?_ _)); refine blk_far ?_ NB255_266.out _; (with_reducible repeat (first | refine blk_drewN ?_ _ | refine blk_drew ?_ | refine blk_alloc ?_ _)); refine blk_far ?_ NB255_266.out _; (with_reducible repeat (first | refine blk_drewN ?_ _ | refine blk_drew ?_ | refine blk_alloc ?_ _)); refine blk_far ?_ NB255_266.out _; (with_reducible repeat (first | refine blk_drewN ?_ _ | refine blk_drew ?_ | refine blk_alloc ?_ _)); exact BK255.out⟩, ⟨by (with_reducible repeat (first | refine blk_drewN ?_ _ | refine blk_drew ?_ | refine blk_alloc ?_ _)); refine blk_far ?_ NB259_266.out _; (with_reducible repeat (first | refine blk_drewN ?_ _ | refine blk_drew ?_ | refine blk_alloc ?_ _)); refine blk_far ?_ NB259_266.out _; (with_reducible repeat (first | refine blk_drewN ?_ _ | refine blk_drew ?_ | refine blk_alloc ?_ _)); refine blk_far ?_ NB259_266.out _; (with_reducible repeat (first | refine blk_drewN ?_ _ | refine blk_drew ?_ | refine blk_alloc ?_ _)); exact BK259.out⟩, ⟨by repeat (first | (with_reducible first | exact HB.out | apply below_alloc | apply pw_below_drewN | apply below_drew1 | refine below_set ?_ GE255.out | refine below_set ?_ GE259.out | refine below_set ?_ GE266.out) | exact HB.out)⟩⟩
                            ·rw [if_neg c66] at H
                             have c66b0 : (((rd_T182 y261 x87_4).f0) == (rd ((rd_T58 (rd_L3 l0 ((rd_T182 l1 x19_1).f0)) ((rd_T182 l1 x19_1).f1)).f1) x79_3)) = false := beq_eq_false_iff_ne.mpr c66
                             have c66b1 : (((rd_T182 y261 x87_4).f0) != (rd ((rd_T58 (rd_L3 l0 ((rd_T182 l1 x19_1).f0)) ((rd_T182 l1 x19_1).f1)).f1) x79_3)) = true := bne_iff_ne.mpr c66
                             have H' := Aside0.mk H
                             clear H
                             have p265 : 0 ≤ (x87_4 : Int) := of_decide_eq_true (by first | (with_reducible assumption) | assumption)
                             have q265 : x87_4 < (y261.length : Int) := of_decide_eq_true (by first | (with_reducible assumption) | assumption)
                             obtain ⟨ad265, e265, hx265_0, hx265_1, hx265_2⟩ := at_T182 HR264.out x87_4 p265 q265
                             obtain rfl : ad254 = ad265 := (by injection e265)
                             replace hx265_0 := (HB.out.cell (World.block_lt_of_cell? w _ hx265_0)).trans hx265_0
                             replace hx265_1 := (HB.out.cell (World.block_lt_of_cell? w _ hx265_1)).trans hx265_1
                             replace hx265_2 := (HB.out.cell (World.block_lt_of_cell? w _ hx265_2)).trans hx265_2
                             replace p265 := eq_true p265
                             replace q265 := eq_true q265
                             go_wp2_with (first | ((with_reducible refine gate_dst (N := 16) rfl ?_); (try (refine gate_guard (by rfl) ?_; dsimp only)); refine box_event ?hg (N := 16) ?hd (cs := #[.int .i64 0, .int .i64 0, .int .i64 0]) (t := 182) ?hr ?_; (case hd => rfl); (case hg => rfl); (case hr => first | (go_simp; done) | (go_simp; rfl)); intro gb266 hg w73 hbox hb; have n0_ := Aside0.mk (blk_below (g := gb255) (o := .cells #[.int .i64 ((rd_T182 l1 x19_1).f0), .int .i64 ((rd_T182 l1 x19_1).f1), .int .i64 ((rd_T182 l1 x19_1).f2)] 182 (0, 0)) (by (with_reducible repeat (first | refine blk_drewN ?_ _ | refine blk_drew ?_ | refine blk_alloc ?_ _)); exact BK255.out) hb); have n1_ := Aside0.mk (blk_below (g := gb259) (o := .cells #[.int .i64 ((rd_T58 (rd_L3 l0 ((rd_T182 l1 x19_1).f0)) ((rd_T182 l1 x19_1).f1)).f0), .slice (some ad260) ((rd_T58 (rd_L3 l0 ((rd_T182 l1 x19_1).f0)) ((rd_T182 l1 x19_1).f1)).f1).length c258_1] 58 (0, 0)) (by (with_reducible repeat (first | refine blk_drewN ?_ _ | refine blk_drew ?_ | refine blk_alloc ?_ _)); exact BK259.out) hb); have n2_ := Aside0.mk (below_step (by repeat (first | (with_reducible first | exact HB.out | apply below_alloc | apply pw_below_drewN | apply below_drew1 | refine below_set ?_ GE255.out | refine below_set ?_ GE259.out) | exact HB.out)) hb); have n3_ := Aside0.mk (hbox); have n4_ := Aside0.mk ((by rw [hg]; exact (below_size (by repeat (first | (with_reducible first | exact HB.out | apply below_alloc | apply pw_below_drewN | apply below_drew1 | refine below_set ?_ GE255.out | refine below_set ?_ GE259.out) | exact HB.out))) : w.heap.size ≤ gb266)); have n5_ := Aside0.mk ((by rw [hg]; exact (below_size (by repeat (first | (with_reducible first | exact HB.out | apply below_alloc | apply pw_below_drewN | apply below_drew1 | refine below_set ?_ GE255.out | refine below_set ?_ GE259.out) | exact HB.out))) : w.heap.size ≤ gb266)); have n6_ := Aside0.mk ((by rw [hg]; exact Nat.ne_of_lt (blk_lt (g := gb255) (o := .cells #[.int .i64 ((rd_T182 l1 x19_1).f0), .int .i64 ((rd_T182 l1 x19_1).f1), .int .i64 ((rd_T182 l1 x19_1).f2)] 182 (0, 0)) (by (with_reducible repeat (first | refine blk_drewN ?_ _ | refine blk_drew ?_ | refine blk_alloc ?_ _)); exact BK255.out)) : gb255 ≠ gb266)); have n7_ := Aside0.mk ((by rw [hg]; exact Nat.ne_of_gt (blk_lt (g := gb255) (o := .cells #[.int .i64 ((rd_T182 l1 x19_1).f0), .int .i64 ((rd_T182 l1 x19_1).f1), .int .i64 ((rd_T182 l1 x19_1).f2)] 182 (0, 0)) (by (with_reducible repeat (first | refine blk_drewN ?_ _ | refine blk_drew ?_ | refine blk_alloc ?_ _)); exact BK255.out)) : gb266 ≠ gb255)); have n8_ := Aside0.mk ((by rw [hg]; exact Nat.ne_of_lt (blk_lt (g := gb259) (o := .cells #[.int .i64 ((rd_T58 (rd_L3 l0 ((rd_T182 l1 x19_1).f0)) ((rd_T182 l1 x19_1).f1)).f0), .slice (some ad260) ((rd_T58 (rd_L3 l0 ((rd_T182 l1 x19_1).f0)) ((rd_T182 l1 x19_1).f1)).f1).length c258_1] 58 (0, 0)) (by (with_reducible repeat (first | refine blk_drewN ?_ _ | refine blk_drew ?_ | refine blk_alloc ?_ _)); exact BK259.out)) : gb259 ≠ gb266)); have n9_ := Aside0.mk ((by rw [hg]; exact Nat.ne_of_gt (blk_lt (g := gb259) (o := .cells #[.int .i64 ((rd_T58 (rd_L3 l0 ((rd_T182 l1 x19_1).f0)) ((rd_T182 l1 x19_1).f1)).f0), .slice (some ad260) ((rd_T58 (rd_L3 l0 ((rd_T182 l1 x19_1).f0)) ((rd_T182 l1 x19_1).f1)).f1).length c258_1] 58 (0, 0)) (by (with_reducible repeat (first | refine blk_drewN ?_ _ | refine blk_drew ?_ | refine blk_alloc ?_ _)); exact BK259.out)) : gb266 ≠ gb259)); clear BK255; clear BK259; clear HB; have BK255 := n0_; have BK259 := n1_; have HB := n2_; have BK266 := n3_; have GW266 := n4_; have GE266 := n5_; have NB255_266 := n6_; have NB266_255 := n7_; have NB259_266 := n8_; have NB266_259 := n9_; clear n0_ n1_ n2_ n3_ n4_ n5_ n6_ n7_ n8_ n9_; clear hb hbox hg; have hnb74 := NB266_255.out; have hnc74 := NB255_266.out; have hnb75 := NB266_259.out; have hnc75 := NB259_266.out; have hcz76_0 : w73.cell? ⟨gb266, 0, none⟩ = some (.int .i64 0) := (blk_cell BK266.out 0).trans rfl; have hcz76_1 : w73.cell? ⟨gb266, 1, none⟩ = some (.int .i64 0) := (blk_cell BK266.out 1).trans rfl; have hcz76_2 : w73.cell? ⟨gb266, 2, none⟩ = some (.int .i64 0) := (blk_cell BK266.out 2).trans rfl; have hfz76_0 := blk_frozen BK266.out 0; have hfz76_1 := blk_frozen BK266.out 1; have hfz76_2 := blk_frozen BK266.out 2))
                             go_roundg k4
                             case measure => have := HK1.out; have := HJ7.out; have := HK3.out; have := HK4.out; omega
                             case rel => exact ⟨(false), (wrap64 (x87_4 + 1)), (by first | rfl | (simp; done) | (simp [*]; done) | (simp [isEmpty_bne]; done)), (by first | rfl | (simp; done) | (simp [*]; done) | (simp [isEmpty_bne]; done)), H', ⟨by have := HK1.out; have := HJ7.out; have := HK3.out; have := HK4.out; omega⟩, ⟨by (with_reducible repeat (first | refine blk_drewN ?_ _ | refine blk_drew ?_ | refine blk_alloc ?_ _)); refine blk_far ?_ NB255_266.out _; (with_reducible repeat (first | refine blk_drewN ?_ _ | refine blk_drew ?_ | refine blk_alloc ?_ _)); refine blk_far ?_ NB255_266.out _; (with_reducible repeat (first | refine blk_drewN ?_ _ | refine blk_drew ?_ | refine blk_alloc ?_ _)); refine blk_far ?_ NB255_266.out _; (with_reducible repeat (first | refine blk_drewN ?_ _ | refine blk_drew ?_ | refine blk_alloc ?_ _)); exact BK255.out⟩, ⟨by (with_reducible repeat (first | refine blk_drewN ?_ _ | refine blk_drew ?_ | refine blk_alloc ?_ _)); refine blk_far ?_ NB259_266.out _; (with_reducible repeat (first | refine blk_drewN ?_ _ | refine blk_drew ?_ | refine blk_alloc ?_ _)); refine blk_far ?_ NB259_266.out _; (with_reducible repeat (first | refine blk_drewN ?_ _ | refine blk_drew ?_ | refine blk_alloc ?_ _)); refine blk_far ?_ NB259_266.out _; (with_reducible repeat (first | refine blk_drewN ?_ _ | refine blk_drew ?_ | refine blk_alloc ?_ _)); exact BK259.out⟩, ⟨by repeat (first | (with_reducible first | exact HB.out | apply below_alloc | apply pw_below_drewN | apply below_drew1 | refine below_set ?_ GE255.out | refine below_set ?_ GE259.out | refine below_set ?_ GE266.out) | exact HB.out)⟩⟩
                          ·rw [if_neg c60] at H
                           exact absurd H (by simp)
                         ·rw [if_neg c59] at H
                          exact absurd H (by simp)
                        ·rw [if_neg c58] at H
                         have c58b0 : decide (x87_4 < (y261.length : Int)) = false := decide_eq_false c58
                         clear c58
                         by_cases c77 : x14_4 = true
                         ·subst c77
                          have H1 : (glossatorref3_Proves.l1 k4 l0 l1 a2 a3 x19_1 l1 (l1.length : Int) x19_1 ((rd_T58 (rd_L3 l0 ((rd_T182 l1 x19_1).f0)) ((rd_T182 l1 x19_1).f1)).f1) (((rd_T58 (rd_L3 l0 ((rd_T182 l1 x19_1).f0)) ((rd_T182 l1 x19_1).f1)).f1).length : Int) (wrap64 (x79_3 + 1)) ((rd_T182 l1 x19_1).f0) ((rd_T182 l1 x19_1).f1) ((rd_T182 l1 x19_1).f2)) = some r := by rw [if_pos rfl] at H; exact H
                          clear H
                          have H := H1
                          clear H1
                          have H' := Aside0.mk H
                          clear H
                          go_wp2
                          go_roundg k4
                          case measure => have := HK1.out; have := HJ7.out; have := HK3.out; have := HK4.out; omega
                          case rel => exact ⟨(wrap64 (x79_3 + 1)), (by first | rfl | (simp; done) | (simp [*]; done) | (simp [isEmpty_bne]; done)), H', ⟨by have := HK1.out; have := HJ7.out; have := HK3.out; have := HK4.out; omega⟩, ⟨by (with_reducible repeat (first | refine blk_drewN ?_ _ | refine blk_drew ?_ | refine blk_alloc ?_ _)); exact BK255.out⟩, ⟨by (with_reducible repeat (first | refine blk_drewN ?_ _ | refine blk_drew ?_ | refine blk_alloc ?_ _)); exact BK259.out⟩, ⟨by repeat (first | (with_reducible first | exact HB.out | apply below_alloc | apply pw_below_drewN | apply below_drew1 | refine below_set ?_ GE255.out | refine below_set ?_ GE259.out) | exact HB.out)⟩⟩
                         ·replace c77 := Bool.eq_false_iff.mpr c77
                          subst c77
                          have H1 : (some false) = some r := by rw [if_neg (show ¬ (false = true) by decide)] at H; exact H
                          clear H
                          have H := H1
                          clear H1
                          obtain rfl := Option.some.inj H
                          go_wp2
                          go_ret
                          exact ⟨by first | rfl | (simp [errW_none, errW_some] <;> rfl) | (simp only [← hji36]; first | rfl | (simp [errW_none, errW_some] <;> rfl)) | (simp [*, errW_none, errW_some] <;> rfl), by repeat (first | (with_reducible first | exact HB.out | apply below_alloc | apply pw_below_drewN | apply below_drew1 | refine below_set ?_ GE255.out | refine below_set ?_ GE259.out) | exact HB.out)⟩
                     ·rw [if_neg c56] at H
                      exact absurd H (by simp)
                    ·rw [if_neg c55] at H
                     exact absurd H (by simp)
                   ·rw [if_neg c54] at H
                    exact absurd H (by simp)
                  ·rw [if_neg c53] at H
                   exact absurd H (by simp)
                 ·rw [if_neg c52] at H
                  have c52b0 : decide (x79_3 < (((rd_T58 (rd_L3 l0 ((rd_T182 l1 x19_1).f0)) ((rd_T182 l1 x19_1).f1)).f1).length : Int)) = false := decide_eq_false c52
                  clear c52
                  have H' := Aside0.mk H
                  clear H
                  go_wp2
                  go_roundg k3
                  case measure => have := HK1.out; have := HJ7.out; have := HK3.out; omega
                  case rel => exact ⟨(wrap64 (x19_1 + 1)), (by first | rfl | (simp; done) | (simp [*]; done) | (simp [isEmpty_bne]; done)), H', ⟨by have := HK1.out; have := HJ7.out; have := HK3.out; omega⟩, ⟨by repeat (first | (with_reducible first | exact HB.out | apply below_alloc | apply pw_below_drewN | apply below_drew1 | refine below_set ?_ GE255.out | refine below_set ?_ GE259.out) | exact HB.out)⟩⟩
             ·rw [if_neg c35] at H
              exact absurd H (by simp)
            ·rw [if_neg c34] at H
             exact absurd H (by simp)
           ·rw [if_neg c33] at H
            exact absurd H (by simp)
          ·rw [if_neg c32] at H
           exact absurd H (by simp)
         ·rw [if_neg c31] at H
          exact absurd H (by simp)
     ·rw [if_neg c7] at H
      exact absurd H (by simp)
    ·rw [if_neg c6] at H
     exact absurd H (by simp)
   ·rw [if_neg c5] at H
    have c5b0 : decide (x19_1 < (l1.length : Int)) = false := decide_eq_false c5
    clear c5
    by_cases c78 : (l1.length : Int) > 0
    ·rw [if_pos c78] at H
     have c78b0 : decide (0 < (l1.length : Int)) = true := decide_eq_true c78
     have c78b1 : decide (0 < l1.length) = true := decide_eq_true (by omega)
     clear c78
     obtain ⟨ji79, hji79⟩ : ∃ j_ : Int, (wrap64 ((l1.length : Int) - 1)) = j_ := ⟨_, rfl⟩
     replace H : (if 0 ≤ (ji79) then (if (ji79) < (l1.length : Int) then (if ((rd_T182 l1 (ji79)).f0) = a2 then (some (((rd_T182 l1 (ji79)).f2) == a3)) else (some false)) else (none)) else (none)) = some r := by first | (rw [hji79] at H; exact H) | (simp only [hji79] at H ⊢; exact H)
     have hji79w : (IntKind.i64.wrap ((l1.length : Int) - 1)) = ji79 := (i64_w _).trans hji79
     by_cases c80 : 0 ≤ (ji79)
     ·rw [if_pos c80] at H
      have c80b0 : decide (0 ≤ (ji79)) = true := decide_eq_true c80
      clear c80
      by_cases c81 : (ji79) < (l1.length : Int)
      ·rw [if_pos c81] at H
       have c81b0 : decide ((ji79) < (l1.length : Int)) = true := decide_eq_true c81
       clear c81
       by_cases c82 : ((rd_T182 l1 (ji79)).f0) = a2
       ·rw [if_pos c82] at H
        have c82b0 : (((rd_T182 l1 (ji79)).f0) == a2) = true := beq_iff_eq.mpr c82
        have c82b1 : (((rd_T182 l1 (ji79)).f0) != a2) = false := bne_eq_false_iff_eq.mpr c82
        clear c82
        obtain rfl := Option.some.inj H
        have p252 : 0 ≤ ((ji79) : Int) := of_decide_eq_true (by first | (with_reducible assumption) | assumption)
        have q252 : (ji79) < (l1.length : Int) := of_decide_eq_true (by first | (with_reducible assumption) | assumption)
        obtain ⟨ad252, e252, hx252_0, hx252_1, hx252_2⟩ := at_T182 HR1.out (ji79) p252 q252
        cases e252
        replace hx252_0 := (HB.out.cell (World.block_lt_of_cell? w _ hx252_0)).trans hx252_0
        replace hx252_1 := (HB.out.cell (World.block_lt_of_cell? w _ hx252_1)).trans hx252_1
        replace hx252_2 := (HB.out.cell (World.block_lt_of_cell? w _ hx252_2)).trans hx252_2
        replace p252 := eq_true p252
        replace q252 := eq_true q252
        have p253 : 0 ≤ ((ji79) : Int) := of_decide_eq_true (by first | (with_reducible assumption) | assumption)
        have q253 : (ji79) < (l1.length : Int) := of_decide_eq_true (by first | (with_reducible assumption) | assumption)
        obtain ⟨ad253, e253, hx253_0, hx253_1, hx253_2⟩ := at_T182 HR1.out (ji79) p253 q253
        obtain rfl : ad252 = ad253 := (by injection e253)
        replace hx253_0 := (HB.out.cell (World.block_lt_of_cell? w _ hx253_0)).trans hx253_0
        replace hx253_1 := (HB.out.cell (World.block_lt_of_cell? w _ hx253_1)).trans hx253_1
        replace hx253_2 := (HB.out.cell (World.block_lt_of_cell? w _ hx253_2)).trans hx253_2
        replace p253 := eq_true p253
        replace q253 := eq_true q253
        go_wp2
        go_ret
        exact ⟨by first | rfl | (simp [errW_none, errW_some] <;> rfl) | (simp only [← hji79]; first | rfl | (simp [errW_none, errW_some] <;> rfl)) | (simp [*, errW_none, errW_some] <;> rfl), by repeat (first | (with_reducible first | exact HB.out | apply below_alloc | apply pw_below_drewN | apply below_drew1) | exact HB.out)⟩
       ·rw [if_neg c82] at H
        have c82b0 : (((rd_T182 l1 (ji79)).f0) == a2) = false := beq_eq_false_iff_ne.mpr c82
        have c82b1 : (((rd_T182 l1 (ji79)).f0) != a2) = true := bne_iff_ne.mpr c82
        obtain rfl := Option.some.inj H
        have p252 : 0 ≤ ((ji79) : Int) := of_decide_eq_true (by first | (with_reducible assumption) | assumption)
        have q252 : (ji79) < (l1.length : Int) := of_decide_eq_true (by first | (with_reducible assumption) | assumption)
        obtain ⟨ad252, e252, hx252_0, hx252_1, hx252_2⟩ := at_T182 HR1.out (ji79) p252 q252
        cases e252
        replace hx252_0 := (HB.out.cell (World.block_lt_of_cell? w _ hx252_0)).trans hx252_0
        replace hx252_1 := (HB.out.cell (World.block_lt_of_cell? w _ hx252_1)).trans hx252_1
        replace hx252_2 := (HB.out.cell (World.block_lt_of_cell? w _ hx252_2)).trans hx252_2
        replace p252 := eq_true p252
        replace q252 := eq_true q252
        go_wp2
        go_ret
        exact ⟨by first | rfl | (simp [errW_none, errW_some] <;> rfl) | (simp only [← hji79]; first | rfl | (simp [errW_none, errW_some] <;> rfl)) | (simp [*, errW_none, errW_some] <;> rfl), by repeat (first | (with_reducible first | exact HB.out | apply below_alloc | apply pw_below_drewN | apply below_drew1) | exact HB.out)⟩
      ·rw [if_neg c81] at H
       exact absurd H (by simp)
     ·rw [if_neg c80] at H
      exact absurd H (by simp)
    ·rw [if_neg c78] at H
     have c78b0 : decide (0 < (l1.length : Int)) = false := decide_eq_false c78
     have c78b1 : decide (0 < l1.length) = false := decide_eq_false (by omega)
     clear c78
     obtain rfl := Option.some.inj H
     go_wp2
     go_ret
     exact ⟨by first | rfl | (simp [errW_none, errW_some] <;> rfl) | (simp [*, errW_none, errW_some] <;> rfl), by repeat (first | (with_reducible first | exact HB.out | apply below_alloc | apply pw_below_drewN | apply below_drew1) | exact HB.out)⟩

end Go.Proofs.Ytglckkkjfcomlaa.QFixpointProofs
