-- Written by gen.py (this repo's wip/), which runs the kit's print.py with more arms. Lean checks it.
import Derived.Test.YtcikmpcacakfbaaQJournalReadx0
import Derived.Test.YtcikmpcacakfbaaQJournalReadx2
import Derived.Test.YtcikmpcacakfbaaQJournalReadx5
namespace Go.Proofs.Ytcikmpcacakfbaa.QJournalRead
open Go.RowKit Go.Proofs.YtcikmpcacakfbaaW.PrintWords Go.Proofs.YtcikmpcacakfbaaW.PrintLast Go.Proofs.YtcikmpcacakfbaaW.PrintMore
attribute [local go_sem] max2_int min2_int max_two min_two max_three min_three max_four min_four   -- for this text's walks alone
set_option linter.unusedVariables false
set_option linter.unusedSimpArgs false

private theorem isEmpty_bne {α : Type} [BEq α] (l : List α) : (l != []) = !l.isEmpty := by cases l <;> rfl

/-! ### glossatorref3_CheckRecord: function 44 -/
def glossatorref3_CheckRecord.j0 : Nat → Bool → ByteArray → ByteArray → Bool → Option (Int)
  | 0, _, _, _, _ => none
  | k + 1, x14, x189000, x189001, x189002 => if x14 = true then (some 3) else (if (x189000.size : Int) > 60 then (some 2) else (if (x189001.size : Int) > 3000 then (some 2) else (some 0)))
def glossatorref3_CheckRecord.f (k : Nat) (a0_0 : ByteArray) (a0_1 : ByteArray) (a0_2 : Bool) : Option (Int) := if a0_0.toList = ([] : List UInt8) then (glossatorref3_CheckRecord.j0 k true a0_0 a0_1 a0_2) else (if a0_2 = true then (glossatorref3_CheckRecord.j0 k (a0_1.toList != ([] : List UInt8)) a0_0 a0_1 a0_2) else (glossatorref3_CheckRecord.j0 k false a0_0 a0_1 a0_2))
theorem glossatorref3_CheckRecord.mono_l : ∀ k, (∀ y0 y1 y2 y3, LeO (glossatorref3_CheckRecord.j0 k y0 y1 y2 y3) (glossatorref3_CheckRecord.j0 (k + 1) y0 y1 y2 y3))
  | 0 => fun _ _ _ _ r h => by simp [glossatorref3_CheckRecord.j0] at h
  | k + 1 => by
    have ih0 := glossatorref3_CheckRecord.mono_l k
    · intro y0 y1 y2 y3
      unfold glossatorref3_CheckRecord.j0
      repeat' first
      | (with_reducible exact ih0 _ _ _ _)
      | (with_reducible exact LeO.refl _)
      | (with_reducible exact LeO.none _)
      | (with_reducible refine LeO.ite ?_ ?_)
      | (with_reducible refine LeO.bind ?_ (fun _ => ?_))
      | exact ih0 _ _ _ _
      | exact LeO.none _
      | refine LeO.ite ?_ ?_
      | refine LeO.bind ?_ (fun _ => ?_)
theorem glossatorref3_CheckRecord.mono : ∀ a0 a1 a2 k, LeO (glossatorref3_CheckRecord.f k a0 a1 a2) (glossatorref3_CheckRecord.f (k + 1) a0 a1 a2) := by
  intro a0 a1 a2 k
  have ih0 := glossatorref3_CheckRecord.mono_l k
  unfold glossatorref3_CheckRecord.f
  repeat' first
      | (with_reducible exact ih0 _ _ _ _)
      | (with_reducible exact LeO.refl _)
      | (with_reducible exact LeO.none _)
      | (with_reducible refine LeO.ite ?_ ?_)
      | (with_reducible refine LeO.bind ?_ (fun _ => ?_))
      | exact ih0 _ _ _ _
      | exact LeO.none _
      | refine LeO.ite ?_ ?_
      | refine LeO.bind ?_ (fun _ => ?_)
set_option maxHeartbeats 8000000 in
set_option maxRecDepth 100000 in
theorem glossatorref3_CheckRecord.calls (k : Nat) (a0_0 : ByteArray) (a0_1 : ByteArray) (a0_2 : Bool) (r : Int) (w : World) (h : glossatorref3_CheckRecord.f k a0_0 a0_1 a0_2 = some r) :
    Calls Try.prog 44 #[.agg #[.string a0_0, .string a0_1, .bool a0_2]] w fun e w' => e = .returned (.int .i64 r) ∧ Below w.heap.size w w' := by
  have hu26 := Try.underlying26
  have HB := Aside0.mk (Below.refl w.heap.size w)
  have H : (if a0_0.toList = ([] : List UInt8) then (glossatorref3_CheckRecord.j0 k true a0_0 a0_1 a0_2) else (if a0_2 = true then (glossatorref3_CheckRecord.j0 k (a0_1.toList != ([] : List UInt8)) a0_0 a0_1 a0_2) else (glossatorref3_CheckRecord.j0 k false a0_0 a0_1 a0_2))) = some r := h
  clear h
  have HC2 := Aside0.mk H
  clear H
  go_enter Try.func44, Try.ntmps44
  go_upto_region 1 with (first | ((with_reducible refine gate_dst (N := 1) rfl ?_); (try (refine gate_guard (by rfl) ?_; dsimp only)); refine box_event ?hg (N := 1) ?hd (cs := #[.string a0_0, .string a0_1, .bool a0_2]) (t := 26) ?hr ?_; (case hd => rfl); (case hg => rfl); (case hr => first | (go_simp; done) | (go_simp; rfl)); intro gb188 hg w3 hbox hb; have n0_ := Aside0.mk (below_step (by repeat (first | (with_reducible first | exact HB.out | apply below_alloc | apply pw_below_drewN | apply below_drew1) | exact HB.out)) hb); have n1_ := Aside0.mk (hbox); have n2_ := Aside0.mk ((by rw [hg]; exact (below_size (by repeat (first | (with_reducible first | exact HB.out | apply below_alloc | apply pw_below_drewN | apply below_drew1) | exact HB.out))) : w.heap.size ≤ gb188)); have n3_ := Aside0.mk ((by rw [hg]; exact (below_size (by repeat (first | (with_reducible first | exact HB.out | apply below_alloc | apply pw_below_drewN | apply below_drew1) | exact HB.out))) : w.heap.size ≤ gb188)); clear HB; have HB := n0_; have BK188 := n1_; have GW188 := n2_; have GE188 := n3_; clear n0_ n1_ n2_ n3_; clear hb hbox hg))
  (try simp only [Act.put, List.setIfInBounds_toArray, List.set_cons_zero, List.set_cons_succ])
  go_cut [14] (fun v14 wc => ∃ (kq : Nat) (x14_1 : Bool), v14 = .bool x14_1 ∧ Aside0 (glossatorref3_CheckRecord.j0 kq x14_1 a0_0 a0_1 a0_2 = some r) ∧ Aside0 (kq ≤ k) ∧ Aside0 (wc.heap[gb188]? = some (.cells #[.string a0_0, .string a0_1, .bool a0_2] 26 (0, 0))) ∧ Aside0 (Below w.heap.size w wc))
  case first =>
    have H := HC2.out
    clear HC2
    by_cases c4 : a0_0.toList = ([] : List UInt8)
    · rw [if_pos c4] at H
      have c4b0 : (a0_0.toList == ([] : List UInt8)) = true := beq_iff_eq.mpr c4
      have c4b1 : (a0_0.toList != ([] : List UInt8)) = false := bne_eq_false_iff_eq.mpr c4
      clear c4
      (first | rw [c4b0] | (simp only [i64_w, i32_w]; rw [c4b0]) | skip)
      have H' := Aside0.mk H
      clear H
      have hcz5_0 : w3.cell? ⟨gb188, 0, none⟩ = some (.string a0_0) := (blk_cell BK188.out 0).trans rfl
      have hcz5_1 : w3.cell? ⟨gb188, 1, none⟩ = some (.string a0_1) := (blk_cell BK188.out 1).trans rfl
      have hcz5_2 : w3.cell? ⟨gb188, 2, none⟩ = some (.bool a0_2) := (blk_cell BK188.out 2).trans rfl
      have hfz5_0 := blk_frozen BK188.out 0
      have hfz5_1 := blk_frozen BK188.out 1
      have hfz5_2 := blk_frozen BK188.out 2
      go_wp2
      go_meet
      case rel => exact ⟨_, (true), (by first | rfl | (simp; done) | (simp [*]; done) | (simp [isEmpty_bne]; done)), H', ⟨by first | omega | exact Nat.le_refl _⟩, ⟨by (with_reducible repeat (first | refine blk_drewN ?_ _ | refine blk_drew ?_ | refine blk_alloc ?_ _)); exact BK188.out⟩, ⟨by repeat (first | (with_reducible first | exact HB.out | apply below_alloc | apply pw_below_drewN | apply below_drew1 | refine below_set ?_ GE188.out) | exact HB.out)⟩⟩
    · rw [if_neg c4] at H
      have c4b0 : (a0_0.toList == ([] : List UInt8)) = false := beq_eq_false_iff_ne.mpr c4
      have c4b1 : (a0_0.toList != ([] : List UInt8)) = true := bne_iff_ne.mpr c4
      (first | rw [c4b0] | (simp only [i64_w, i32_w]; rw [c4b0]) | skip)
      by_cases c6 : a0_2 = true
      · subst c6
        have H1 : (glossatorref3_CheckRecord.j0 k (a0_1.toList != ([] : List UInt8)) a0_0 a0_1 true) = some r := by rw [if_pos rfl] at H; exact H
        clear H
        have H := H1
        clear H1
        have H' := Aside0.mk H
        clear H
        have hcz7_0 : w3.cell? ⟨gb188, 0, none⟩ = some (.string a0_0) := (blk_cell BK188.out 0).trans rfl
        have hcz7_1 : w3.cell? ⟨gb188, 1, none⟩ = some (.string a0_1) := (blk_cell BK188.out 1).trans rfl
        have hcz7_2 : w3.cell? ⟨gb188, 2, none⟩ = some (.bool true) := (blk_cell BK188.out 2).trans rfl
        have hfz7_0 := blk_frozen BK188.out 0
        have hfz7_1 := blk_frozen BK188.out 1
        have hfz7_2 := blk_frozen BK188.out 2
        go_wp2
        go_meet
        case rel => exact ⟨_, ((a0_1.toList != ([] : List UInt8))), (by first | rfl | (simp; done) | (simp [*]; done) | (simp [isEmpty_bne]; done)), H', ⟨by first | omega | exact Nat.le_refl _⟩, ⟨by (with_reducible repeat (first | refine blk_drewN ?_ _ | refine blk_drew ?_ | refine blk_alloc ?_ _)); exact BK188.out⟩, ⟨by repeat (first | (with_reducible first | exact HB.out | apply below_alloc | apply pw_below_drewN | apply below_drew1 | refine below_set ?_ GE188.out) | exact HB.out)⟩⟩
      · replace c6 := Bool.eq_false_iff.mpr c6
        subst c6
        have H1 : (glossatorref3_CheckRecord.j0 k false a0_0 a0_1 false) = some r := by rw [if_neg (show ¬ (false = true) by decide)] at H; exact H
        clear H
        have H := H1
        clear H1
        have H' := Aside0.mk H
        clear H
        have hcz8_0 : w3.cell? ⟨gb188, 0, none⟩ = some (.string a0_0) := (blk_cell BK188.out 0).trans rfl
        have hcz8_1 : w3.cell? ⟨gb188, 1, none⟩ = some (.string a0_1) := (blk_cell BK188.out 1).trans rfl
        have hcz8_2 : w3.cell? ⟨gb188, 2, none⟩ = some (.bool false) := (blk_cell BK188.out 2).trans rfl
        have hfz8_0 := blk_frozen BK188.out 0
        have hfz8_1 := blk_frozen BK188.out 1
        have hfz8_2 := blk_frozen BK188.out 2
        go_wp2
        go_meet
        case rel => exact ⟨_, (false), (by first | rfl | (simp; done) | (simp [*]; done) | (simp [isEmpty_bne]; done)), H', ⟨by first | omega | exact Nat.le_refl _⟩, ⟨by (with_reducible repeat (first | refine blk_drewN ?_ _ | refine blk_drew ?_ | refine blk_alloc ?_ _)); exact BK188.out⟩, ⟨by repeat (first | (with_reducible first | exact HB.out | apply below_alloc | apply pw_below_drewN | apply below_drew1 | refine below_set ?_ GE188.out) | exact HB.out)⟩⟩
  case rest =>
    clear HC2
    try clear p2
    try clear c4
    try clear c4b0
    try clear c4b1
    try clear c6
    try clear hcz5_0
    try clear hcz5_1
    try clear hcz5_2
    try clear hcz7_0
    try clear hcz7_1
    try clear hcz7_2
    try clear hcz8_0
    try clear hcz8_1
    try clear hcz8_2
    try clear hfz5_0
    try clear hfz5_1
    try clear hfz5_2
    try clear hfz7_0
    try clear hfz7_1
    try clear hfz7_2
    try clear hfz8_0
    try clear hfz8_1
    try clear hfz8_2
    obtain ⟨kq, x14_1, rfl, HA, HJ1, BK188, HB⟩ := hcut
    cases kq with
    | zero => exact absurd HA.out (by simp [glossatorref3_CheckRecord.j0])
    | succ kj1 =>
      have H := HA.out
      clear HA
      simp only [glossatorref3_CheckRecord.j0] at H
      by_cases c9 : x14_1 = true
      · subst c9
        have H1 : (some 3) = some r := by rw [if_pos rfl] at H; exact H
        clear H
        have H := H1
        clear H1
        obtain rfl := Option.some.inj H
        go_wp2
        go_ret
        exact ⟨by first | rfl | (simp [errW_none, errW_some] <;> rfl) | (simp [*, errW_none, errW_some] <;> rfl), by repeat (first | (with_reducible first | exact HB.out | apply below_alloc | apply pw_below_drewN | apply below_drew1 | refine below_set ?_ GE188.out) | exact HB.out)⟩
      · replace c9 := Bool.eq_false_iff.mpr c9
        subst c9
        have H1 : (if (a0_0.size : Int) > 60 then (some 2) else (if (a0_1.size : Int) > 3000 then (some 2) else (some 0))) = some r := by rw [if_neg (show ¬ (false = true) by decide)] at H; exact H
        clear H
        have H := H1
        clear H1
        by_cases c10 : (a0_0.size : Int) > 60
        · rw [if_pos c10] at H
          have c10b0 : decide (60 < (a0_0.size : Int)) = true := decide_eq_true c10
          have c10b1 : decide (60 < a0_0.size) = true := decide_eq_true (by omega)
          clear c10
          obtain rfl := Option.some.inj H
          have hcz11_0 : wc.cell? ⟨gb188, 0, none⟩ = some (.string a0_0) := (blk_cell BK188.out 0).trans rfl
          have hcz11_1 : wc.cell? ⟨gb188, 1, none⟩ = some (.string a0_1) := (blk_cell BK188.out 1).trans rfl
          have hcz11_2 : wc.cell? ⟨gb188, 2, none⟩ = some (.bool a0_2) := (blk_cell BK188.out 2).trans rfl
          have hfz11_0 := blk_frozen BK188.out 0
          have hfz11_1 := blk_frozen BK188.out 1
          have hfz11_2 := blk_frozen BK188.out 2
          go_wp2
          go_ret
          exact ⟨by first | rfl | (simp [errW_none, errW_some] <;> rfl) | (simp [*, errW_none, errW_some] <;> rfl), by repeat (first | (with_reducible first | exact HB.out | apply below_alloc | apply pw_below_drewN | apply below_drew1 | refine below_set ?_ GE188.out) | exact HB.out)⟩
        · rw [if_neg c10] at H
          have c10b0 : decide (60 < (a0_0.size : Int)) = false := decide_eq_false c10
          have c10b1 : decide (60 < a0_0.size) = false := decide_eq_false (by omega)
          clear c10
          by_cases c12 : (a0_1.size : Int) > 3000
          · rw [if_pos c12] at H
            have c12b0 : decide (3000 < (a0_1.size : Int)) = true := decide_eq_true c12
            have c12b1 : decide (3000 < a0_1.size) = true := decide_eq_true (by omega)
            clear c12
            obtain rfl := Option.some.inj H
            have hcz13_0 : wc.cell? ⟨gb188, 0, none⟩ = some (.string a0_0) := (blk_cell BK188.out 0).trans rfl
            have hcz13_1 : wc.cell? ⟨gb188, 1, none⟩ = some (.string a0_1) := (blk_cell BK188.out 1).trans rfl
            have hcz13_2 : wc.cell? ⟨gb188, 2, none⟩ = some (.bool a0_2) := (blk_cell BK188.out 2).trans rfl
            have hfz13_0 := blk_frozen BK188.out 0
            have hfz13_1 := blk_frozen BK188.out 1
            have hfz13_2 := blk_frozen BK188.out 2
            go_wp2
            go_ret
            exact ⟨by first | rfl | (simp [errW_none, errW_some] <;> rfl) | (simp [*, errW_none, errW_some] <;> rfl), by repeat (first | (with_reducible first | exact HB.out | apply below_alloc | apply pw_below_drewN | apply below_drew1 | refine below_set ?_ GE188.out) | exact HB.out)⟩
          · rw [if_neg c12] at H
            have c12b0 : decide (3000 < (a0_1.size : Int)) = false := decide_eq_false c12
            have c12b1 : decide (3000 < a0_1.size) = false := decide_eq_false (by omega)
            clear c12
            obtain rfl := Option.some.inj H
            have hcz14_0 : wc.cell? ⟨gb188, 0, none⟩ = some (.string a0_0) := (blk_cell BK188.out 0).trans rfl
            have hcz14_1 : wc.cell? ⟨gb188, 1, none⟩ = some (.string a0_1) := (blk_cell BK188.out 1).trans rfl
            have hcz14_2 : wc.cell? ⟨gb188, 2, none⟩ = some (.bool a0_2) := (blk_cell BK188.out 2).trans rfl
            have hfz14_0 := blk_frozen BK188.out 0
            have hfz14_1 := blk_frozen BK188.out 1
            have hfz14_2 := blk_frozen BK188.out 2
            go_wp2
            go_ret
            exact ⟨by first | rfl | (simp [errW_none, errW_some] <;> rfl) | (simp [*, errW_none, errW_some] <;> rfl), by repeat (first | (with_reducible first | exact HB.out | apply below_alloc | apply pw_below_drewN | apply below_drew1 | refine below_set ?_ GE188.out) | exact HB.out)⟩

section
open Go.Proofs.Ytcikmpcacakfbaa.Hand Go.Proofs.Ytcikmpcacakfbaa.Aid
theorem bt_in (s : ByteArray) (i : Int) : 0 ≤ bt s i ∧ bt s i < 256 := by
  unfold bt
  split
  · have := (s[i.toNat]'(by assumption)).toNat_lt
    omega
  · omega
def ckStep (h b : Int) : Int := ((Go.bits .xor .u32 h (b % 4294967296)) * 16777619) % 4294967296
theorem ckStep_in (h b : Int) : 0 ≤ ckStep h b ∧ ckStep h b < 4294967296 := by unfold ckStep; omega
theorem xor_same (h b : Int) (h0 : 0 ≤ h) (h1 : h < 4294967296) (b0 : 0 ≤ b) (b1 : b < 256) :
    Int.tmod (IntKind.u64.wrap ((Go.bits .xor .u64 h (IntKind.u64.wrap b)) * 16777619)) 4294967296 = ckStep h b := by
  have hw : IntKind.u64.wrap b = b := by simp [IntKind.wrap, IntKind.bits, IntKind.signed]; omega
  have hb : b % 4294967296 = b := by omega
  unfold ckStep
  rw [hw, hb, Go.u32_xor h b h0 h1 b0 (by omega), Go.u64_xor h b h0 (by omega) b0 (by omega)]
  have lt : h.toNat ^^^ b.toNat < 2 ^ 32 := Nat.xor_lt_two_pow (by omega) (by omega)
  generalize h.toNat ^^^ b.toNat = x at lt
  have e : IntKind.u64.wrap ((x : Int) * 16777619) = (x : Int) * 16777619 := by simp [IntKind.wrap, IntKind.bits, IntKind.signed]; omega
  rw [e, Int.tmod_eq_emod_of_nonneg (by omega)]
/-- The checksum from byte i on, d bytes. -/
def ckRun (s : ByteArray) : Nat → Nat → Int → Int
  | 0, _, h => h
  | d + 1, i, h => ckRun s d (i + 1) (ckStep h (bt s i))
theorem sum_l0 (s : ByteArray) (hs : s.size ≤ 1000000000000000) : ∀ (d i : Nat) (h : Int), i + d = s.size → Ev (fun k => journal_Checksum.l0 k s h (s.size : Int) (i : Int)) (ckRun s d i h)
  | 0, i, h, e => by
    refine Ev.some' (fun k => ?_)
    simp only [journal_Checksum.l0]
    rw [if_neg (by omega)]
    rfl
  | d + 1, i, h, e => by
    have ih := sum_l0 s hs d (i + 1) (ckStep h (bt s i)) (by omega)
    refine Ev.stepK ih (fun k => ?_)
    simp only [journal_Checksum.l0]
    rw [if_pos (by omega), if_pos (by omega), if_pos (by omega), wrap_id (by omega) (by omega)]
    rfl
theorem ref_l0 (s : ByteArray) (hs : s.size ≤ 1000000000000000) : ∀ (d i : Nat) (h : Int), i + d = s.size → 0 ≤ h → h < 4294967296 → Ev (fun k => glossatorref3_Checksum.l0 k s h (s.size : Int) (i : Int)) (ckRun s d i h)
  | 0, i, h, e, h0, h1 => by
    refine Ev.some' (fun k => ?_)
    simp only [glossatorref3_Checksum.l0]
    rw [if_neg (by omega)]
    simp only [ckRun]
    rw [Int.emod_eq_of_lt h0 h1]
  | d + 1, i, h, e, h0, h1 => by
    have ih := ref_l0 s hs d (i + 1) (ckStep h (bt s i)) (by omega) (ckStep_in _ _).1 (ckStep_in _ _).2
    refine Ev.stepK ih (fun k => ?_)
    simp only [glossatorref3_Checksum.l0]
    rw [if_pos (by omega), if_pos (by omega), if_pos (by omega), wrap_id (by omega) (by omega), xor_same h _ h0 h1 (bt_in s i).1 (bt_in s i).2]
    rfl
def cks (s : ByteArray) : Int := ckRun s s.size 0 2166136261
theorem sum_ev (s : ByteArray) (hs : s.size ≤ 1000000000000000) : Ev (fun k => journal_Checksum.f k s) (cks s) := sum_l0 s hs s.size 0 _ (by omega)
theorem sumref_ev (s : ByteArray) (hs : s.size ≤ 1000000000000000) : Ev (fun k => glossatorref3_Checksum.f k s) (cks s) := ref_l0 s hs s.size 0 _ (by omega) (by decide) (by decide)

/-- The error of a record. -/
def chk (key val : ByteArray) (del : Bool) : Int :=
  if key.toList = ([] : List UInt8) then 3 else if del = true ∧ val.toList ≠ ([] : List UInt8) then 3 else if (key.size : Int) > 60 then 2 else if (val.size : Int) > 3000 then 2 else 0
theorem validate_ev (key val : ByteArray) (del : Bool) : Ev (fun k => journal_validate.f k key val del) (chk key val del) := by
  have j0 : ∀ b, Ev (fun k => journal_validate.j0 k b key val del) (if b = true then 3 else if (key.size : Int) > 60 then 2 else if (val.size : Int) > 3000 then 2 else 0) := by
    intro b
    refine Ev.some' (fun k => ?_)
    simp only [journal_validate.j0]
    repeat' split
    all_goals rfl
  unfold journal_validate.f chk
  by_cases h0 : key.toList = ([] : List UInt8)
  · simp only [h0, if_true]
    exact j0 true
  · simp only [h0, if_false]
    cases del with
    | true =>
      simp only [if_true, true_and]
      by_cases h1 : val.toList = ([] : List UInt8)
      · have e := j0 (val.toList != ([] : List UInt8))
        simp only [h1] at e ⊢
        exact e
      · have e := j0 (val.toList != ([] : List UInt8))
        have hb : (val.toList != ([] : List UInt8)) = true := by simpa using h1
        rw [hb] at e ⊢
        simpa [h1] using e
    | false => exact j0 false
theorem check_ev (key val : ByteArray) (del : Bool) : Ev (fun k => glossatorref3_CheckRecord.f k key val del) (chk key val del) := by
  have j0 : ∀ b, Ev (fun k => glossatorref3_CheckRecord.j0 k b key val del) (if b = true then 3 else if (key.size : Int) > 60 then 2 else if (val.size : Int) > 3000 then 2 else 0) := by
    intro b
    refine Ev.some' (fun k => ?_)
    simp only [glossatorref3_CheckRecord.j0]
    repeat' split
    all_goals rfl
  unfold glossatorref3_CheckRecord.f chk
  by_cases h0 : key.toList = ([] : List UInt8)
  · simp only [h0, if_true]
    exact j0 true
  · simp only [h0, if_false]
    cases del with
    | true =>
      simp only [if_true, true_and]
      by_cases h1 : val.toList = ([] : List UInt8)
      · have e := j0 (val.toList != ([] : List UInt8))
        simp only [h1] at e ⊢
        exact e
      · have e := j0 (val.toList != ([] : List UInt8))
        have hb : (val.toList != ([] : List UInt8)) = true := by simpa using h1
        rw [hb] at e ⊢
        simpa [h1] using e
    | false => exact j0 false

def num4 (n : Int) : ByteArray := strOfNums [(n / 16777216) % 256, (n / 65536) % 256, (n / 256) % 256, n % 256]
/-- One frame of a journal's rest: an error's number (0: none is whole), or the record and the frame's size. -/
def rjStep (q : ByteArray) : Int ⊕ (S26 × Nat) :=
  if q.size < 6 then .inl 0 else
  if (q.size : Int) < 6 + (bt q 0 * 256 + bt q 1) then .inl 0 else
  let p := q.extract 6 (6 + (bt q 0 * 256 + bt q 1)).toNat
  if num4 (cks (q.extract 0 2 ++ p)) ≠ q.extract 2 6 then .inl 13 else
  if bt q 0 * 256 + bt q 1 < 2 ∨ bt q 0 * 256 + bt q 1 < 2 + bt p 1 ∨ bt p 0 > 1 then .inl 3 else
  if chk (p.extract 2 (2 + bt p 1).toNat) (p.extract (2 + bt p 1).toNat p.size) (bt p 0 == 1) ≠ 0 then .inl 3 else
  .inr (⟨p.extract 2 (2 + bt p 1).toNat, p.extract (2 + bt p 1).toNat p.size, bt p 0 == 1⟩, (6 + (bt q 0 * 256 + bt q 1)).toNat)
def rjGo (a : ByteArray) : Nat → List S26 → Nat → List S26 × Nat × Int
  | 0, rs, s => (rs, s, 0)
  | d + 1, rs, s => match rjStep (a.extract s a.size) with
    | .inl e => (rs, s, e)
    | .inr (r, m) => rjGo a d (rs ++ [r]) (s + m)
def readR (a : ByteArray) : List S26 × Nat × Int := rjGo a (a.size + 1) [] 0
theorem rjStep_in {q : ByteArray} {r : S26} {m : Nat} (h : rjStep q = .inr (r, m)) : 6 ≤ m ∧ m ≤ q.size := by
  unfold rjStep at h
  have h0 := bt_in q 0
  have h1 := bt_in q 1
  split at h
  · cases h
  · split at h
    · cases h
    · simp only at h
      split at h
      · cases h
      · split at h
        · cases h
        · split at h
          · cases h
          · injection h with h
            injection h with _ h
            omega
theorem results_3 {fn : Func} {s t u : Tmp} (h : fn.results = #[.tmp s, .tmp t, .tmp u]) (tmps : Array Value) (P : Program) (w : World) :
    (results fn tmps).run P w = .ok (.tuple #[tmps.getD s undef, tmps.getD t undef, tmps.getD u undef]) w := by
  simp [results, h, Sem.run_pure]
set_option maxRecDepth 100000 in
set_option maxHeartbeats 16000000 in
theorem readR_calls (a0 : ByteArray) (w : World) (hlim : a0.size < 1000000) :
    Calls Try.prog 13 #[.string a0] w fun e w' => ∃ v0_ : Value, e = .returned (.tuple #[v0_, .int .i64 ((readR a0).2.1 : Int), .int .i64 (readR a0).2.2]) ∧ Kd.R k26 26 w' w.heap.size (fun _ => True) v0_ (readR a0).1 ∧ Below w.heap.size w w' := by
  have HLIM := Aside0.mk hlim
  clear hlim
  have hu26 := Try.underlying26
  obtain ⟨R, hR⟩ : ∃ R, readR a0 = R := ⟨_, rfl⟩
  rw [hR]
  have HRR := Aside0.mk hR
  clear hR
  go_enter Try.func13, Try.ntmps13
  go_wp2
  go_loopg [5, 6] (a0.size + 1) (fun kq v5 v6 W => ∃ (s : Nat) (rs : List S26) (A1 : Option Addr) (c1 : Nat), v5 = .slice A1 rs.length c1 ∧ v6 = .int .i64 (s : Int) ∧ a0.size + 1 ≤ kq + s ∧ Aside0 (rjGo a0 kq rs s = R ∧ s ≤ a0.size ∧ rs.length ≤ s ∧ Kd.R k26 26 W w.heap.size (fun _ => True) (.slice A1 rs.length c1) rs ∧ Below w.heap.size w W))
  case atStart => exact ⟨0, [], none, 0, rfl, rfl, by omega, ⟨HRR.out, Nat.zero_le _, Nat.zero_le _, Kd.R_nil _ _ _ _ _, Below.refl _ _⟩⟩
  case round =>
    obtain ⟨s, rs, A1, c1, rfl, rfl, hks, hA⟩ := hrel
    cases gk with
    | zero => exact absurd hA.out.2.1 (by omega)
    | succ k2 =>
      have q0 := eq_true (show (0 : Int) ≤ (s : Int) by omega)
      have q1 := eq_true (show (s : Int) ≤ (a0.size : Int) by have := hA.out.2.1; omega)
      have q2 := eq_true (show s ≤ a0.size from hA.out.2.1)
      go_upto_region 4 with (fail)
      have hgo : (match rjStep (a0.extract s a0.size) with | .inl e => (rs, s, e) | .inr (r, m) => rjGo a0 k2 (rs ++ [r]) (s + m)) = R := hA.out.1
      have hqs : (a0.extract s a0.size).size ≤ a0.size - s := by simp
      obtain ⟨q, hq⟩ : ∃ q, a0.extract s a0.size = q := ⟨_, rfl⟩
      rw [hq] at hgo hqs ⊢
      have HGO := Aside0.mk hgo
      have HQS := Aside0.mk hqs
      have HKS := Aside0.mk hks
      clear hgo hq hqs q0 q1 q2 hks
      by_cases h6 : q.size < 6
      · have b0 : decide ((q.size : Int) < 6) = true := decide_eq_true (by omega)
        have b0' : decide (q.size < 6) = true := decide_eq_true h6
        have hst : rjStep q = .inl 0 := by unfold rjStep; rw [if_pos h6]
        have hE : R = (rs, s, 0) := by have h := HGO.out; rw [hst] at h; exact h.symm
        have HE := Aside0.mk hE
        clear h6 hst hE
        go_wp2
        refine bodyPost_ret (results_3 rfl _ _ _) rfl ?_
        rw [HE.out]
        exact ⟨_, rfl, hA.out.2.2.2.1, hA.out.2.2.2.2⟩
      have b0 : decide ((q.size : Int) < 6) = false := decide_eq_false (by omega)
      have b0' : decide (q.size < 6) = false := decide_eq_false h6
      have H6 := Aside0.mk h6
      go_upto_region 6 with (fail)
      have p0 := eq_true (show (0 : Int) < (q.size : Int) by omega)
      have p1 := eq_true (show (1 : Int) < (q.size : Int) by omega)
      have p2 := eq_true (show 0 < q.size by omega)
      have p3 := eq_true (show 1 < q.size by omega)
      clear h6 b0 b0'
      refine start_ (n := 9) (S := fun w' => True) (ds := ([] : List Nat)) #[false, false, false, false, false, false, false, false, false] (by kernel_rfl) rfl rfl (trivial) (fun hHeld => ?_)
      refine pure_ (i := 0) (N := some 20) (v := ?_) (a' := ?_) #[true, false, false, false, false, false, false, false, false] rfl rfl (by kernel_rfl) (fun _ _ _ h => h) (Or.inl ⟨by rfl, ?_⟩) ?_ ?_
      rotate_left
      · intro w'
        go_simp
        with_reducible rfl
      rotate_left
      · simp only [Act.put, List.setIfInBounds_toArray, List.set_cons_zero, List.set_cons_succ, i64_w, i32_w]
        rfl
      refine pure_ (i := 1) (N := some 21) (v := ?_) (a' := ?_) #[true, true, false, false, false, false, false, false, false] rfl rfl (by kernel_rfl) (fun _ _ _ h => h) (Or.inl ⟨by rfl, ?_⟩) ?_ ?_
      rotate_left
      · intro w'
        go_simp
        with_reducible rfl
      rotate_left
      · simp only [Act.put, List.setIfInBounds_toArray, List.set_cons_zero, List.set_cons_succ, i64_w, i32_w]
        rfl
      refine pure_ (i := 2) (N := some 22) (v := ?_) (a' := ?_) #[true, true, true, false, false, false, false, false, false] rfl rfl (by kernel_rfl) (fun _ _ _ h => h) (Or.inl ⟨by rfl, ?_⟩) ?_ ?_
      rotate_left
      · intro w'
        go_simp
        with_reducible rfl
      rotate_left
      · simp only [Act.put, List.setIfInBounds_toArray, List.set_cons_zero, List.set_cons_succ, i64_w, i32_w]
        rfl
      refine pure_ (i := 3) (N := some 23) (v := ?_) (a' := ?_) #[true, true, true, true, false, false, false, false, false] rfl rfl (by kernel_rfl) (fun _ _ _ h => h) (Or.inl ⟨by rfl, ?_⟩) ?_ ?_
      rotate_left
      · intro w'
        go_simp
        with_reducible rfl
      rotate_left
      · simp only [Act.put, List.setIfInBounds_toArray, List.set_cons_zero, List.set_cons_succ, i64_w, i32_w]
        rfl
      refine pure_ (i := 4) (N := some 24) (v := ?_) (a' := ?_) #[true, true, true, true, true, false, false, false, false] rfl rfl (by kernel_rfl) (fun _ _ _ h => h) (Or.inl ⟨by rfl, ?_⟩) ?_ ?_
      rotate_left
      · intro w'
        go_simp
        with_reducible rfl
      rotate_left
      · simp only [Act.put, List.setIfInBounds_toArray, List.set_cons_zero, List.set_cons_succ, i64_w, i32_w]
        rfl
      refine pure_ (i := 5) (N := some 25) (v := ?_) (a' := ?_) #[true, true, true, true, true, true, false, false, false] rfl rfl (by kernel_rfl) (fun _ _ _ h => h) (Or.inl ⟨by rfl, ?_⟩) ?_ ?_
      rotate_left
      · intro w'
        go_simp
        with_reducible rfl
      rotate_left
      · simp only [Act.put, List.setIfInBounds_toArray, List.set_cons_zero, List.set_cons_succ, i64_w, i32_w]
        rfl
      refine pure_ (i := 6) (N := some 26) (v := ?_) (a' := ?_) #[true, true, true, true, true, true, true, false, false] rfl rfl (by kernel_rfl) (fun _ _ _ h => h) (Or.inl ⟨by rfl, ?_⟩) ?_ ?_
      rotate_left
      · intro w'
        go_simp
        with_reducible rfl
      rotate_left
      · simp only [Act.put, List.setIfInBounds_toArray, List.set_cons_zero, List.set_cons_succ, i64_w, i32_w]
        rfl
      refine pure_ (i := 7) (N := some 27) (v := ?_) (a' := ?_) #[true, true, true, true, true, true, true, true, false] rfl rfl (by kernel_rfl) (fun _ _ _ h => h) (Or.inl ⟨by rfl, ?_⟩) ?_ ?_
      rotate_left
      · intro w'
        go_simp
        with_reducible rfl
      rotate_left
      · simp only [Act.put, List.setIfInBounds_toArray, List.set_cons_zero, List.set_cons_succ, i64_w, i32_w]
        rfl
      refine pure_ (i := 8) (N := some 8) (v := ?_) (a' := ?_) #[true, true, true, true, true, true, true, true, true] rfl rfl (by kernel_rfl) (fun _ _ _ h => h) (Or.inl ⟨by rfl, ?_⟩) ?_ ?_
      rotate_left
      · intro w'
        go_simp
        with_reducible rfl
      rotate_left
      · simp only [Act.put, List.setIfInBounds_toArray, List.set_cons_zero, List.set_cons_succ, i64_w, i32_w]
        rfl
      refine done_ (by kernel_rfl) ?_
      have hq0 : (0 : Int).toNat < q.size := by have := H6.out; simp; omega
      have hq1 : (1 : Int).toNat < q.size := by have := H6.out; simp; omega
      have e0 : ((q[0]'hq0).toNat : Int) = bt q 0 := bt_at q 0 hq0
      have e1 : ((q[1]'hq1).toNat : Int) = bt q 1 := bt_at q 1 hq1
      simp only [e0, e1]
      have i0 := bt_in q 0
      have i1 := bt_in q 1
      obtain ⟨b0, hb0⟩ : ∃ b0, bt q 0 = b0 := ⟨_, rfl⟩
      obtain ⟨b1, hb1⟩ : ∃ b1, bt q 1 = b1 := ⟨_, rfl⟩
      rw [hb0] at i0
      rw [hb1] at i1
      obtain ⟨n, hn⟩ : ∃ n : Nat, b0 * 256 + b1 = (n : Int) := ⟨(b0 * 256 + b1).toNat, by omega⟩
      have e2 : wrap64 b0 = b0 := wrap_id (by omega) (by omega)
      have e3 : wrap64 b1 = b1 := wrap_id (by omega) (by omega)
      have e4 : wrap64 (b0 * 256) = b0 * 256 := wrap_id (by omega) (by omega)
      have e5 : wrap64 (b0 * 256 + b1) = (n : Int) := by rw [wrap_id (by omega) (by omega)]; exact hn
      simp only [hb0, hb1, e2, e3, e4, e5]
      have HNB := Aside0.mk (And.intro hb0 (And.intro hb1 (And.intro hn (And.intro i0 i1))))
      have hN : n < 65536 := by omega
      clear e0 e1 e2 e3 e4 e5 hb0 hb1 hn i0 i1 hHeld p0 p1 p2 p3 hq0 hq1
      have hwn : wrap64 (6 + (n : Int)) = 6 + (n : Int) := wrap_id (by omega) (by omega)
      have hstep : rjStep q = (if (q.size : Int) < 6 + (n : Int) then .inl 0 else
          if num4 (cks (q.extract 0 2 ++ q.extract 6 (6 + n))) ≠ q.extract 2 6 then .inl 13 else
          if (n : Int) < 2 ∨ (n : Int) < 2 + bt (q.extract 6 (6 + n)) 1 ∨ bt (q.extract 6 (6 + n)) 0 > 1 then .inl 3 else
          if chk ((q.extract 6 (6 + n)).extract 2 (2 + bt (q.extract 6 (6 + n)) 1).toNat) ((q.extract 6 (6 + n)).extract (2 + bt (q.extract 6 (6 + n)) 1).toNat (q.extract 6 (6 + n)).size) (bt (q.extract 6 (6 + n)) 0 == 1) ≠ 0 then .inl 3 else
          .inr (⟨(q.extract 6 (6 + n)).extract 2 (2 + bt (q.extract 6 (6 + n)) 1).toNat, (q.extract 6 (6 + n)).extract (2 + bt (q.extract 6 (6 + n)) 1).toNat (q.extract 6 (6 + n)).size, bt (q.extract 6 (6 + n)) 0 == 1⟩, 6 + n)) := by
        unfold rjStep
        rw [if_neg H6.out, HNB.out.1, HNB.out.2.1, HNB.out.2.2.1, show (6 + (n : Int)).toNat = 6 + n by omega]
      have HSTEP := Aside0.mk hstep
      clear hstep HNB
      by_cases h7 : (q.size : Int) < 6 + (n : Int)
      · have c0 : decide ((q.size : Int) < 6 + (n : Int)) = true := decide_eq_true h7
        have hE : R = (rs, s, 0) := by have h := HGO.out; rw [HSTEP.out, if_pos h7] at h; exact h.symm
        have HE := Aside0.mk hE
        clear h7 hE
        go_wp2
        refine bodyPost_ret (results_3 rfl _ _ _) rfl ?_
        rw [HE.out]
        exact ⟨_, rfl, Kd.R_drew hA.out.2.2.2.1, below_drew1 hA.out.2.2.2.2⟩
      have c0 : decide ((q.size : Int) < 6 + (n : Int)) = false := decide_eq_false h7
      have r0 := eq_true (show (0 : Int) ≤ 6 + (n : Int) by omega)
      have r1 := eq_true (show (6 : Int) ≤ 6 + (n : Int) by omega)
      have r2 := eq_true (show 6 + (n : Int) ≤ (q.size : Int) by omega)
      have r3 := eq_true (show 6 + n ≤ q.size by omega)
      have H7 := Aside0.mk h7
      clear h7
      go_upto_region 10 with (fail)
      have hps : (q.extract 6 (6 + n)).size = n := by
        have h := H7.out
        simp only [ByteArray.size_extract]
        omega
      obtain ⟨p, hp⟩ : ∃ p, q.extract 6 (6 + n) = p := ⟨_, rfl⟩
      have hstep := HSTEP.out
      rw [hp] at hps hstep ⊢
      have HST2 := Aside0.mk hstep
      have HPS := Aside0.mk hps
      clear hp hps hstep HSTEP c0 r0 r1 r2 r3
      have h2 := eq_true (show (2 : Int) ≤ (q.size : Int) by have := H6.out; omega)
      have h2' := eq_true (show 2 ≤ q.size by have := H6.out; omega)
      have h66 := eq_true (show (6 : Int) ≤ (q.size : Int) by have := H6.out; omega)
      have h66' := eq_true (show 6 ≤ q.size by have := H6.out; omega)
      have hcat := eq_false (show ¬ (9223372036854775807 < 2 + p.size) by have := HPS.out; omega)
      obtain ⟨kc, hkc⟩ := (sumref_ev (q.extract 0 2 ++ p) (by rw [ByteArray.size_append, HPS.out, ByteArray.size_extract]; omega)).rounds
      have HKC := Aside0.mk hkc
      clear hkc
      refine start_ (n := 9) (S := fun w' => True) (ds := ([] : List Nat)) #[false, false, false, false, false, false, false, false, false] (by kernel_rfl) rfl rfl (trivial) (fun hHeld => ?_)
      refine pure_ (i := 0) (N := some 39) (v := ?_) (a' := ?_) #[true, false, false, false, false, false, false, false, false] rfl rfl (by kernel_rfl) (fun _ _ _ h => h) (Or.inl ⟨by rfl, ?_⟩) ?_ ?_
      rotate_left
      · intro w'
        go_simp
        with_reducible rfl
      rotate_left
      · simp only [Act.put, List.setIfInBounds_toArray, List.set_cons_zero, List.set_cons_succ, i64_w, i32_w]
        rfl
      refine pure_ (i := 1) (N := some 40) (v := ?_) (a' := ?_) #[true, true, false, false, false, false, false, false, false] rfl rfl (by kernel_rfl) (fun _ _ _ h => h) (Or.inl ⟨by rfl, ?_⟩) ?_ ?_
      rotate_left
      · intro w'
        go_simp
        with_reducible rfl
      rotate_left
      · simp only [Act.put, List.setIfInBounds_toArray, List.set_cons_zero, List.set_cons_succ, i64_w, i32_w]
        rfl
      refine pure_ (i := 2) (N := some 41) (v := ?_) (a' := ?_) #[true, true, true, false, false, false, false, false, false] rfl rfl (by kernel_rfl) (fun _ _ _ h => h) (Or.inl ⟨by rfl, ?_⟩) ?_ ?_
      rotate_left
      · intro w'
        go_simp
        with_reducible rfl
      rotate_left
      · simp only [Act.put, List.setIfInBounds_toArray, List.set_cons_zero, List.set_cons_succ, i64_w, i32_w]
        rfl
      refine pure_ (i := 3) (N := some 42) (v := ?_) (a' := ?_) #[true, true, true, true, false, false, false, false, false] rfl rfl (by kernel_rfl) (fun _ _ _ h => h) (Or.inl ⟨by rfl, ?_⟩) ?_ ?_
      rotate_left
      · intro w'
        go_simp
        with_reducible rfl
      rotate_left
      · simp only [Act.put, List.setIfInBounds_toArray, List.set_cons_zero, List.set_cons_succ, i64_w, i32_w]
        rfl
      refine pure_ (i := 6) (N := some 45) (v := ?_) (a' := ?_) #[true, true, true, true, false, false, true, false, false] rfl rfl (by kernel_rfl) (fun _ _ _ h => h) (Or.inl ⟨by rfl, ?_⟩) ?_ ?_
      rotate_left
      · intro w'
        go_simp
        with_reducible rfl
      rotate_left
      · simp only [Act.put, List.setIfInBounds_toArray, List.set_cons_zero, List.set_cons_succ, i64_w, i32_w]
        rfl
      refine pure_ (i := 7) (N := some 46) (v := ?_) (a' := ?_) #[true, true, true, true, false, false, true, true, false] rfl rfl (by kernel_rfl) (fun _ _ _ h => h) (Or.inl ⟨by rfl, ?_⟩) ?_ ?_
      rotate_left
      · intro w'
        go_simp
        with_reducible rfl
      rotate_left
      · simp only [Act.put, List.setIfInBounds_toArray, List.set_cons_zero, List.set_cons_succ, i64_w, i32_w]
        rfl
      refine one_ (i := 4) (N := some 43) #[true, true, true, true, true, false, true, true, false] rfl rfl (by kernel_rfl) (by decide) (fun K hK => ?_)
      refine goes_ Try.func43 (by kernel_rfl) rfl #[.string (q.extract 0 2 ++ p)] (by rfl) rfl rfl (by (try simp only [List.map_toArray, List.map_cons, List.map_nil]); first | done | rfl) ?_
      refine (glossatorref3_Checksum.calls kc _ _ _ HKC.out).mono ?_
      rintro e w4 ⟨rfl, hd4⟩
      refine ⟨_, rfl, ?_⟩
      have HB4 := Aside0.mk ((below_drew1 (Below.refl wr.drew.heap.size wr.drew)).trans ((Chg.drawn (S := fun _ => False) hd4).to_below (fun _ _ e => e.elim) (Nat.le_refl _)))
      clear hd4
      refine hK.out _ _ (trivial) (fun hHeld => ?_)
      clear hK K
      refine norm_ (a' := ?_) ?_ ?_
      rotate_left
      · show Act.put _ (some 43) _ = _
        simp only [Act.put, List.setIfInBounds_toArray, List.set_cons_zero, List.set_cons_succ, i64_w, i32_w]
        rfl
      refine one_ (i := 5) (N := some 44) #[true, true, true, true, true, true, true, true, false] rfl rfl (by kernel_rfl) (by decide) (fun K hK => ?_)
      refine goes_ Try.func42 (by kernel_rfl) rfl #[.int .u32 (cks (q.extract 0 2 ++ p))] (by rfl) rfl rfl (by (try simp only [List.map_toArray, List.map_cons, List.map_nil]); first | done | rfl) ?_
      refine (glossatorref3_number32.calls _ (num4 (cks (q.extract 0 2 ++ p))) _ rfl).mono ?_
      rintro e w5 ⟨rfl, hb5⟩
      refine ⟨_, rfl, ?_⟩
      have HB5 := Aside0.mk (HB4.out.trans (hb5.mono HB4.out.size))
      clear hb5
      refine hK.out _ _ (trivial) (fun hHeld => ?_)
      clear hK K
      refine norm_ (a' := ?_) ?_ ?_
      rotate_left
      · show Act.put _ (some 44) _ = _
        simp only [Act.put, List.setIfInBounds_toArray, List.set_cons_zero, List.set_cons_succ, i64_w, i32_w]
        rfl
      refine pure_ (i := 8) (N := some 47) (v := ?_) (a' := ?_) #[true, true, true, true, true, true, true, true, true] rfl rfl (by kernel_rfl) (fun _ _ _ h => h) (Or.inl ⟨by rfl, ?_⟩) ?_ ?_
      rotate_left
      · intro w'
        go_simp
        with_reducible rfl
      rotate_left
      · simp only [Act.put, List.setIfInBounds_toArray, List.set_cons_zero, List.set_cons_succ, i64_w, i32_w]
        rfl
      refine done_ (by kernel_rfl) ?_
      clear hHeld h2 h2' h66 h66' hcat
      have HBW5 := Aside0.mk (show Below w.heap.size w w5 from (below_drew1 hA.out.2.2.2.2).trans (HB5.out.mono (below_drew1 hA.out.2.2.2.2).size))
      have HO5 := Aside0.mk (Kd.R_below (Kd.R_drew hA.out.2.2.2.1) HB5.out)
      obtain ⟨C, hC⟩ : ∃ C, cks (q.extract 0 2 ++ p) = C := ⟨_, rfl⟩
      have hst3 := HST2.out
      rw [hC] at hst3 ⊢
      by_cases h8 : num4 C = q.extract 2 6
      case neg =>
        have hE : R = (rs, s, 13) := by have h := HGO.out; rw [hst3, if_neg H7.out, if_pos h8] at h; exact h.symm
        have HE := Aside0.mk hE
        have d0 : ((num4 C).toList != (q.extract 2 6).toList) = true := by
          rw [bne_iff_ne]
          exact fun e => h8 ((Lib.bytes_beq_iff _ _).1 (beq_iff_eq.2 e))
        have d1 : ((num4 C).toList == (q.extract 2 6).toList) = false := by
          rw [← Bool.not_eq_true]
          exact fun e => h8 ((Lib.bytes_beq_iff _ _).1 e)
        rw [d1]
        clear hst3 hE h8
        go_wp2
        refine bodyPost_ret (results_3 rfl _ _ _) rfl ?_
        rw [HE.out]
        exact ⟨_, rfl, HO5.out, HBW5.out⟩
      case pos =>
        have d0 : ((num4 C).toList != (q.extract 2 6).toList) = false := by rw [h8]; simp
        have d1 : ((num4 C).toList == (q.extract 2 6).toList) = true := by rw [h8]; simp
        rw [d1]
        have HST3 := Aside0.mk (show rjStep q = _ from by rw [hst3, if_neg H7.out, if_neg (fun e => e h8)])
        clear hst3 h8
        go_upto_region 12 with (fail)
        clear d0 d1
        have j0 := bt_in p 0
        have j1 := bt_in p 1
        by_cases h9 : (n : Int) < 2
        · have k0 : decide ((n : Int) < 2) = true := decide_eq_true h9
          have k0' : decide (n < 2) = true := decide_eq_true (by omega)
          have hE : R = (rs, s, 3) := by have h := HGO.out; rw [HST3.out, if_pos (.inl h9)] at h; exact h.symm
          have HE := Aside0.mk hE
          clear h9 hE j0 j1
          go_wp2
          refine bodyPost_ret (results_3 rfl _ _ _) rfl ?_
          rw [HE.out]
          exact ⟨_, rfl, HO5.out, HBW5.out⟩
        have k0 : decide ((n : Int) < 2) = false := decide_eq_false h9
        have k0' : decide (n < 2) = false := decide_eq_false (by omega)
        have n0 := eq_true (show (0 : Int) < (p.size : Int) by have := HPS.out; omega)
        have n1 := eq_true (show (1 : Int) < (p.size : Int) by have := HPS.out; omega)
        have n2 := eq_true (show 0 < p.size by have := HPS.out; omega)
        have n3 := eq_true (show 1 < p.size by have := HPS.out; omega)
        have hq0 : (0 : Int).toNat < p.size := by have := HPS.out; simp; omega
        have hq1 : (1 : Int).toNat < p.size := by have := HPS.out; simp; omega
        have f0 : ((p[0]'hq0).toNat : Int) = bt p 0 := bt_at p 0 hq0
        have f1 : ((p[1]'hq1).toNat : Int) = bt p 1 := bt_at p 1 hq1
        obtain ⟨b0, hb0⟩ : ∃ b0, bt p 0 = b0 := ⟨_, rfl⟩
        obtain ⟨b1, hb1⟩ : ∃ b1, bt p 1 = b1 := ⟨_, rfl⟩
        rw [hb0] at f0 j0
        rw [hb1] at f1 j1
        have g1 : wrap64 b1 = b1 := wrap_id (by omega) (by omega)
        have g2 : wrap64 (2 + b1) = 2 + b1 := wrap_id (by omega) (by omega)
        have HST4 := Aside0.mk (show rjStep q = _ from by rw [HST3.out, hb0, hb1])
        have H9 := Aside0.mk (show ¬ (n : Int) < 2 from h9)
        have HJ := Aside0.mk (And.intro j0 j1)
        clear hb0 hb1 HST3 j0 j1 h9
        by_cases h10 : (n : Int) < 2 + b1
        · have k1 : decide ((n : Int) < 2 + b1) = true := decide_eq_true h10
          have hE : R = (rs, s, 3) := by have h := HGO.out; rw [HST4.out, if_pos (.inr (.inl h10))] at h; exact h.symm
          have HE := Aside0.mk hE
          clear h10 hE
          go_wp2
          refine bodyPost_ret (results_3 rfl _ _ _) rfl ?_
          rw [HE.out]
          exact ⟨_, rfl, HO5.out, HBW5.out⟩
        have k1 : decide ((n : Int) < 2 + b1) = false := decide_eq_false h10
        by_cases h11 : b0 > 1
        · have k2 : decide (b0 > 1) = true := decide_eq_true h11
          have hE : R = (rs, s, 3) := by have h := HGO.out; rw [HST4.out, if_pos (.inr (.inr h11))] at h; exact h.symm
          have HE := Aside0.mk hE
          clear h10 h11 hE
          go_wp2
          refine bodyPost_ret (results_3 rfl _ _ _) rfl ?_
          rw [HE.out]
          exact ⟨_, rfl, HO5.out, HBW5.out⟩
        have k2 : decide (b0 > 1) = false := decide_eq_false h11
        have HST5 := Aside0.mk (show rjStep q = _ from by rw [HST4.out, if_neg (fun h => h.elim H9.out (fun h => h.elim h10 h11))])
        have H10 := Aside0.mk h10
        clear h10 h11 HST4
        obtain ⟨kN, hkN⟩ : ∃ kN : Nat, 2 + b1 = (kN : Int) := ⟨(2 + b1).toNat, by have := HJ.out.2; omega⟩
        have hst6 := HST5.out
        rw [hkN, Int.toNat_natCast] at hst6
        have HST6 := Aside0.mk hst6
        have HKN := Aside0.mk (show 2 ≤ kN ∧ kN ≤ p.size by have h1 := HPS.out; have h2 := H10.out; have h3 := HJ.out.2; omega)
        rw [hkN] at g2 k1
        have k1' : decide (n < kN) = false := decide_eq_false (by have := H10.out; omega)
        have k1'' := eq_true (show kN ≤ n by have := H10.out; omega)
        clear hst6 HST5
        go_upto_region 15 with (fail)
        have s0 := eq_true (show (0 : Int) ≤ (kN : Int) by omega)
        have s1 := eq_true (show (2 : Int) ≤ (kN : Int) by have := HKN.out; omega)
        have s2 := eq_true (show (kN : Int) ≤ (p.size : Int) by have := HKN.out; omega)
        have s3 := eq_true (show kN ≤ p.size from HKN.out.2)
        clear k0 k0' k1 k2 k1' k1''
        refine start_ (n := 12) (S := fun w' => True) (ds := ([] : List Nat)) #[false, false, false, false, false, false, false, false, false, false, false, false] (by kernel_rfl) rfl rfl (trivial) (fun hHeld => ?_)
        refine pure_ (i := 0) (N := some 71) (v := ?_) (a' := ?_) #[true, false, false, false, false, false, false, false, false, false, false, false] rfl rfl (by kernel_rfl) (fun _ _ _ h => h) (Or.inl ⟨by rfl, ?_⟩) ?_ ?_
        rotate_left
        · intro w'
          go_simp
          with_reducible rfl
        rotate_left
        · simp only [Act.put, List.setIfInBounds_toArray, List.set_cons_zero, List.set_cons_succ, i64_w, i32_w]
          rfl
        refine pure_ (i := 1) (N := some 72) (v := ?_) (a' := ?_) #[true, true, false, false, false, false, false, false, false, false, false, false] rfl rfl (by kernel_rfl) (fun _ _ _ h => h) (Or.inl ⟨by rfl, ?_⟩) ?_ ?_
        rotate_left
        · intro w'
          go_simp
          with_reducible rfl
        rotate_left
        · simp only [Act.put, List.setIfInBounds_toArray, List.set_cons_zero, List.set_cons_succ, i64_w, i32_w]
          rfl
        refine pure_ (i := 2) (N := some 73) (v := ?_) (a' := ?_) #[true, true, true, false, false, false, false, false, false, false, false, false] rfl rfl (by kernel_rfl) (fun _ _ _ h => h) (Or.inl ⟨by rfl, ?_⟩) ?_ ?_
        rotate_left
        · intro w'
          go_simp
          with_reducible rfl
        rotate_left
        · simp only [Act.put, List.setIfInBounds_toArray, List.set_cons_zero, List.set_cons_succ, i64_w, i32_w]
          rfl
        refine pure_ (i := 3) (N := some 74) (v := ?_) (a' := ?_) #[true, true, true, true, false, false, false, false, false, false, false, false] rfl rfl (by kernel_rfl) (fun _ _ _ h => h) (Or.inl ⟨by rfl, ?_⟩) ?_ ?_
        rotate_left
        · intro w'
          go_simp
          with_reducible rfl
        rotate_left
        · simp only [Act.put, List.setIfInBounds_toArray, List.set_cons_zero, List.set_cons_succ, i64_w, i32_w]
          rfl
        refine pure_ (i := 4) (N := some 75) (v := ?_) (a' := ?_) #[true, true, true, true, true, false, false, false, false, false, false, false] rfl rfl (by kernel_rfl) (fun _ _ _ h => h) (Or.inl ⟨by rfl, ?_⟩) ?_ ?_
        rotate_left
        · intro w'
          go_simp
          with_reducible rfl
        rotate_left
        · simp only [Act.put, List.setIfInBounds_toArray, List.set_cons_zero, List.set_cons_succ, i64_w, i32_w]
          rfl
        refine pure_ (i := 5) (N := some 76) (v := ?_) (a' := ?_) #[true, true, true, true, true, true, false, false, false, false, false, false] rfl rfl (by kernel_rfl) (fun _ _ _ h => h) (Or.inl ⟨by rfl, ?_⟩) ?_ ?_
        rotate_left
        · intro w'
          go_simp
          with_reducible rfl
        rotate_left
        · simp only [Act.put, List.setIfInBounds_toArray, List.set_cons_zero, List.set_cons_succ, i64_w, i32_w]
          rfl
        refine pure_ (i := 6) (N := some 77) (v := ?_) (a' := ?_) #[true, true, true, true, true, true, true, false, false, false, false, false] rfl rfl (by kernel_rfl) (fun _ _ _ h => h) (Or.inl ⟨by rfl, ?_⟩) ?_ ?_
        rotate_left
        · intro w'
          go_simp
          with_reducible rfl
        rotate_left
        · simp only [Act.put, List.setIfInBounds_toArray, List.set_cons_zero, List.set_cons_succ, i64_w, i32_w]
          rfl
        refine pure_ (i := 7) (N := some 78) (v := ?_) (a' := ?_) #[true, true, true, true, true, true, true, true, false, false, false, false] rfl rfl (by kernel_rfl) (fun _ _ _ h => h) (Or.inl ⟨by rfl, ?_⟩) ?_ ?_
        rotate_left
        · intro w'
          go_simp
          with_reducible rfl
        rotate_left
        · simp only [Act.put, List.setIfInBounds_toArray, List.set_cons_zero, List.set_cons_succ, i64_w, i32_w]
          rfl
        refine pure_ (i := 8) (N := some 79) (v := ?_) (a' := ?_) #[true, true, true, true, true, true, true, true, true, false, false, false] rfl rfl (by kernel_rfl) (fun _ _ _ h => h) (Or.inl ⟨by rfl, ?_⟩) ?_ ?_
        rotate_left
        · intro w'
          go_simp
          with_reducible rfl
        rotate_left
        · simp only [Act.put, List.setIfInBounds_toArray, List.set_cons_zero, List.set_cons_succ, i64_w, i32_w]
          rfl
        refine pure_ (i := 9) (N := some 80) (v := ?_) (a' := ?_) #[true, true, true, true, true, true, true, true, true, true, false, false] rfl rfl (by kernel_rfl) (fun _ _ _ h => h) (Or.inl ⟨by rfl, ?_⟩) ?_ ?_
        rotate_left
        · intro w'
          go_simp
          with_reducible rfl
        rotate_left
        · simp only [Act.put, List.setIfInBounds_toArray, List.set_cons_zero, List.set_cons_succ, i64_w, i32_w]
          rfl
        try simp only [f0]
        have hst7 := HST6.out
        obtain ⟨K1, hK1⟩ : ∃ K1, p.extract 2 kN = K1 := ⟨_, rfl⟩
        obtain ⟨V1, hV1⟩ : ∃ V1, p.extract kN p.size = V1 := ⟨_, rfl⟩
        obtain ⟨D1, hD1⟩ : ∃ D1, (b0 == 1) = D1 := ⟨_, rfl⟩
        simp only [hK1, hV1, hD1] at hst7 ⊢
        have HST7 := Aside0.mk hst7
        clear hst7 HST6 hK1 hV1 hD1 s0 s1 s2 s3 f0 f1 g1 g2 n0 n1 n2 n3 hq0
        refine one_ (i := 10) (N := some 11) #[true, true, true, true, true, true, true, true, true, true, true, false] rfl rfl (by kernel_rfl) (by decide) (fun K hK => ?_)
        refine value_ (v := .pointer (some ⟨w5.heap.size, 0, none⟩)) (w1 := w5.drew.alloc (.cells #[.string ⟨#[]⟩, .string ⟨#[]⟩, .bool false] 26)) (by rfl) rfl ?_ ?_
        · go_simp
        refine hK.out _ _ (trivial) (fun hHeld => ?_)
        clear hK K
        refine norm_ (a' := ?_) ?_ ?_
        rotate_left
        · show Act.put _ (some 11) _ = _
          simp only [Act.put, List.setIfInBounds_toArray, List.set_cons_zero, List.set_cons_succ, i64_w, i32_w]
          rfl
        refine one_ (i := 11) (N := none) #[true, true, true, true, true, true, true, true, true, true, true, true] rfl rfl (by kernel_rfl) (by decide) (fun K hK => ?_)
        refine skip_ (w1 := ?_) (by rfl) rfl ?_ ?_
        rotate_left
        · go_simp
          rfl
        refine hK.out _ _ (trivial) (fun hHeld => ?_)
        clear hK K
        refine done_ (by kernel_rfl) ?_
        clear hHeld
        obtain ⟨W7, hW7⟩ : ∃ W7, (w5.alloc (.cells #[.string K1, .string V1, .bool D1] 26)).drew = W7 := ⟨_, rfl⟩
        have hb7 : Below w5.heap.size w5 W7 := by rw [← hW7]; exact below_drew1 (below_alloc (Below.refl _ _) _)
        have hk7 : W7.heap[w5.heap.size]? = some (.cells #[.string K1, .string V1, .bool D1] 26 (0, 0)) := by rw [← hW7]; exact hb_new w5 _
        rw [hW7]
        clear hW7
        have HB7 := Aside0.mk hb7
        have HK7 := Aside0.mk hk7
        have HO7 := Aside0.mk (Kd.R_below HO5.out hb7)
        have HBW7 := Aside0.mk (HBW5.out.trans (hb7.mono HBW5.out.size))
        have x0 : W7.cell? ⟨w5.heap.size, 0, none⟩ = some (.string K1) := (cells_of_blk hk7 0).trans rfl
        have x1 : W7.cell? ⟨w5.heap.size, 1, none⟩ = some (.string V1) := (cells_of_blk hk7 1).trans rfl
        have x2 : W7.cell? ⟨w5.heap.size, 2, none⟩ = some (.bool D1) := (cells_of_blk hk7 2).trans rfl
        obtain ⟨kd, hkd⟩ := (check_ev K1 V1 D1).rounds
        have HKD := Aside0.mk hkd
        clear hb7 hk7 hkd
        by_cases h12 : chk K1 V1 D1 = 0
        case neg =>
          have e0 : (chk K1 V1 D1 == 0) = false := by simpa using h12
          have e0' : (chk K1 V1 D1 != 0) = true := by simpa using h12
          have hE : R = (rs, s, 3) := by have h := HGO.out; rw [HST7.out, if_pos h12] at h; exact h.symm
          have HE := Aside0.mk hE
          clear h12 hE
          go_wp2_with (go_at_call 44; refine (glossatorref3_CheckRecord.calls kd K1 V1 D1 _ _ HKD.out).mono ?_; rintro e w8 ⟨rfl, hb8⟩; have HB8 := Aside0.mk hb8; clear hb8)
          refine bodyPost_ret (results_3 rfl _ _ _) rfl ?_
          rw [HE.out]
          exact ⟨_, rfl, Kd.R_below HO7.out HB8.out, HBW7.out.trans (HB8.out.mono HBW7.out.size)⟩
        case pos =>
          have e0 : (chk K1 V1 D1 == 0) = true := by simpa using h12
          have e0' : (chk K1 V1 D1 != 0) = false := by simpa using h12
          have HNX := Aside0.mk (show rjGo a0 k2 (rs ++ [⟨K1, V1, D1⟩]) (s + (6 + n)) = R by have h := HGO.out; rw [HST7.out, if_neg (fun e => e h12)] at h; exact h)
          have HMK := Aside0.mk (show ∀ W, k26.M W w.heap.size (fun _ => False) ⟨K1, V1, D1⟩ [.string K1, .string V1, .bool D1] from fun W => k26_mkM W _ _ ⟨K1, V1, D1⟩)
          have HLI := Aside0.mk (show (rs.length + 1) * 40 ≤ 140737488355328 by have h1 := hA.out.2.1; have h2 := hA.out.2.2.1; have h3 := HLIM.out; omega)
          have hwn2 : wrap64 ((s : Int) + (6 + (n : Int))) = ((s + (6 + n) : Nat) : Int) := by have h1 := hA.out.2.1; have h2 := HLIM.out; rw [wrap_id (by omega) (by omega)]; omega
          clear h12
          go_wp2_with (first | (go_at_call 44; refine (glossatorref3_CheckRecord.calls kd K1 V1 D1 _ _ HKD.out).mono ?_; rintro e w8 ⟨rfl, hb8⟩; have hk8 := (hb8.block _ (lt_of_blk HK7.out)).trans HK7.out; have HO8 := Aside0.mk (Kd.R_below HO7.out hb8); have HBW8 := Aside0.mk (HBW7.out.trans (hb8.mono HBW7.out.size)); have z0 : w8.cell? ⟨w5.heap.size, 0, none⟩ = some (.string K1) := (cells_of_blk hk8 0).trans rfl; have z1 : w8.cell? ⟨w5.heap.size, 1, none⟩ = some (.string V1) := (cells_of_blk hk8 1).trans rfl; have z2 : w8.cell? ⟨w5.heap.size, 2, none⟩ = some (.bool D1) := (cells_of_blk hk8 2).trans rfl; clear hb8 hk8) | ((with_reducible refine gate_builtin (b := .append) (xs := #[.tmp 86, .tmp 88]) rfl ?_); at_builtin; refine Kd.R_append k26 (w0 := w) w.heap.size rfl (.tmp 86) (.tmp 88) 22 26 (.agg #[.string ⟨#[]⟩, .string ⟨#[]⟩, .bool false]) 40 rfl Try.underlying22 info26 rfl (by decide) (by omega) (.slice A1 rs.length c1) rs ⟨K1, V1, D1⟩ [.string K1, .string V1, .bool D1] (fun _ => True) (fun _ => False) rfl (by first | (go_simp; done) | (go_simp; rfl)) (HMK.out _) (fun _ h => h.elim) (fun _ _ => trivial) HO8.out HBW8.out HBW8.out.size HLI.out ?_; intro v9 w9 ho9 hb9 hg9 hat9; obtain ⟨A9, c9, hw9⟩ := Kd.R_slice ho9; subst hw9; have HO9 := Aside0.mk ho9; have HB9 := Aside0.mk hb9; clear ho9 hb9 hg9 hat9))
          go_roundg k2
          case measure => omega
          case rel =>
            refine ⟨s + (6 + n), rs ++ [⟨K1, V1, D1⟩], A9, c9, by first | rfl | simp, by rw [hwn2], by have := HKS.out; omega, ⟨HNX.out, ?_, ?_, HO9.out, HB9.out⟩⟩
            · have h1 := HQS.out; have h2 := H7.out; have h3 := hA.out.2.1; omega
            · have h1 := hA.out.2.2.1; simp only [List.length_append, List.length_singleton]; omega
end
def glossatorref3_ReadJournal.f (a0 : ByteArray) : Option ((List (S26)) × Int × Int) := if a0.size < 1000000 then some ((readR a0).1, ((readR a0).2.1 : Int), (readR a0).2.2) else none
theorem glossatorref3_ReadJournal.calls (a0 : ByteArray) (r1 : List (S26)) (r2 : Int) (r3 : Int) (w : World) (h : glossatorref3_ReadJournal.f a0 = some (r1, r2, r3)) :
    Calls Try.prog 13 #[.string a0] w fun e w' => ∃ v0_ : Value, e = .returned (.tuple #[v0_, .int .i64 r2, .int .i64 r3]) ∧ Kd.R k26 26 w' w.heap.size (fun _ => True) v0_ r1 ∧ Below w.heap.size w w' := by
  unfold glossatorref3_ReadJournal.f at h
  split at h
  case isFalse => cases h
  next hl =>
  injection h with h
  injection h with h1 h
  injection h with h2 h3
  subst h1
  subst h2
  subst h3
  exact readR_calls a0 w hl

end Go.Proofs.Ytcikmpcacakfbaa.QJournalRead
