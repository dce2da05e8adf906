-- Written by gen.py (this repo's wip/), which runs the kit's print.py with more arms. Lean checks it.
import Derived.Test.YtcikmpcacakfbaaQJournalReadx0
import Derived.Test.YtcikmpcacakfbaaQJournalReadx2
import Derived.Test.YtcikmpcacakfbaaQJournalReadx4
import Derived.Test.YtcikmpcacakfbaaQJournalReadx5
import Derived.Test.YtcikmpcacakfbaaQJournalReadx6
namespace Go.Proofs.Ytcikmpcacakfbaa.QJournalRead
open Go.RowKit Go.Proofs.YtcikmpcacakfbaaW.PrintWords Go.Proofs.YtcikmpcacakfbaaW.PrintLast Go.Proofs.YtcikmpcacakfbaaW.PrintMore
attribute [local go_sem] max2_int min2_int max_two min_two max_three min_three max_four min_four   -- for this text's walks alone
set_option linter.unusedVariables false
set_option linter.unusedSimpArgs false

private theorem isEmpty_bne {α : Type} [BEq α] (l : List α) : (l != []) = !l.isEmpty := by cases l <;> rfl

/-! ### journal_Recover: function 14 -/
def journal_Recover.f (k : Nat) (a0 : ByteArray) : Option (ByteArray × (List (S26))) := if 0 ≤ (mn (a0.size : Int) 40000) then (if (mn (a0.size : Int) 40000) ≤ (a0.size : Int) then ((journal_scan.f k (a0.extract 0 ((mn (a0.size : Int) 40000) : Int).toNat)).bind fun bt189 => (if 0 ≤ bt189.2.1 then (if bt189.2.1 ≤ ((a0.extract 0 ((mn (a0.size : Int) 40000) : Int).toNat).size : Int) then (some ((a0.extract 0 ((mn (a0.size : Int) 40000) : Int).toNat).extract 0 (bt189.2.1 : Int).toNat, bt189.1)) else (none)) else (none))) else (none)) else (none)
theorem journal_Recover.mono : ∀ a0 k, LeO (journal_Recover.f k a0) (journal_Recover.f (k + 1) a0) := by
  intro a0 k
  unfold journal_Recover.f
  repeat' first
      | (with_reducible exact journal_scan.mono _ _)
      | (with_reducible exact LeO.refl _)
      | (with_reducible exact LeO.none _)
      | (with_reducible refine LeO.ite ?_ ?_)
      | (with_reducible refine LeO.bind ?_ (fun _ => ?_))
      | exact journal_scan.mono _ _
      | exact LeO.none _
      | refine LeO.ite ?_ ?_
      | refine LeO.bind ?_ (fun _ => ?_)
set_option maxHeartbeats 8000000 in
set_option maxRecDepth 100000 in
theorem journal_Recover.calls (k : Nat) (a0 : ByteArray) (r1 : ByteArray) (r2 : List (S26)) (w : World) (h : journal_Recover.f k a0 = some (r1, r2)) :
    Calls Try.prog 14 #[.string a0] w fun e w' => ∃ v1_ : Value, e = .returned (.tuple #[.string r1, v1_]) ∧ Kd.R k26 26 w' w.heap.size (fun _ => True) v1_ r2 ∧ Below w.heap.size w w' := by
  have HB := Aside0.mk (Below.refl w.heap.size w)
  have H : (if 0 ≤ (mn (a0.size : Int) 40000) then (if (mn (a0.size : Int) 40000) ≤ (a0.size : Int) then ((journal_scan.f k (a0.extract 0 ((mn (a0.size : Int) 40000) : Int).toNat)).bind fun bt189 => (if 0 ≤ bt189.2.1 then (if bt189.2.1 ≤ ((a0.extract 0 ((mn (a0.size : Int) 40000) : Int).toNat).size : Int) then (some ((a0.extract 0 ((mn (a0.size : Int) 40000) : Int).toNat).extract 0 (bt189.2.1 : Int).toNat, bt189.1)) else (none)) else (none))) else (none)) else (none)) = some (r1, r2) := h
  clear h
  obtain ⟨ji2, hji2⟩ : ∃ j_ : Int, (mn (a0.size : Int) 40000) = j_ := ⟨_, rfl⟩
  replace H : (if 0 ≤ (ji2) then (if (ji2) ≤ (a0.size : Int) then ((journal_scan.f k (a0.extract 0 ((ji2) : Int).toNat)).bind fun bt189 => (if 0 ≤ bt189.2.1 then (if bt189.2.1 ≤ ((a0.extract 0 ((ji2) : Int).toNat).size : Int) then (some ((a0.extract 0 ((ji2) : Int).toNat).extract 0 (bt189.2.1 : Int).toNat, bt189.1)) else (none)) else (none))) else (none)) else (none)) = some (r1, r2) := by first | (rw [hji2] at H; exact H) | (simp only [hji2] at H ⊢; exact H)
  (try (have hji2h : ji2 ≤ 40000 := by (rw [← hji2]; unfold mn; (repeat' split) <;> omega)))
  (try (have hji2g : ji2 ≤ 64 := by omega))
  (try (have hji2l : 0 ≤ ji2 := by (rw [← hji2]; unfold mn; (repeat' split) <;> omega)))
  (try (have hji2m : 0 ≤ ji2 := by omega))
  have hji2_ : (if 40000 < (a0.size : Int) then 40000 else (a0.size : Int)) = ji2 := hji2
  by_cases c3 : 0 ≤ (ji2)
  · rw [if_pos c3] at H
    have c3b0 := eq_true c3
    have c3b1 : decide (0 ≤ (ji2)) = true := decide_eq_true c3
    clear c3
    by_cases c4 : (ji2) ≤ (a0.size : Int)
    · rw [if_pos c4] at H
      have c4b0 := eq_true c4
      have c4b1 : decide ((ji2) ≤ (a0.size : Int)) = true := decide_eq_true c4
      clear c4
      replace H := Option.bind_eq_some_iff.mp H
      obtain ⟨⟨t189, t190, t191⟩, A50, H⟩ := H
      replace H : (if 0 ≤ t190 then (if t190 ≤ ((a0.extract 0 ((ji2) : Int).toNat).size : Int) then (some ((a0.extract 0 ((ji2) : Int).toNat).extract 0 (t190 : Int).toNat, t189)) else (none)) else (none)) = some (r1, r2) := H
      have A5 := Aside0.mk A50
      clear A50
      by_cases c6 : 0 ≤ t190
      · rw [if_pos c6] at H
        have c6b0 := eq_true c6
        have c6b1 : decide (0 ≤ t190) = true := decide_eq_true c6
        clear c6
        by_cases c7 : t190 ≤ ((a0.extract 0 ((ji2) : Int).toNat).size : Int)
        · rw [if_pos c7] at H
          have c7y : (t190 ≤ max ji2 0) = True := eq_true (by have h_ := c7; simp only [ByteArray.size_extract] at h_; omega)
          have c7b0 := eq_true c7
          have c7b1 : decide (t190 ≤ ((a0.extract 0 ((ji2) : Int).toNat).size : Int)) = true := decide_eq_true c7
          have c7b1x := c7b1
          try simp only [ByteArray.size_extract, Nat.min_self] at c7b1x
          clear c7
          simp only [Option.some.injEq, Prod.mk.injEq] at H
          obtain ⟨rfl, rfl⟩ := H
          go_enter Try.func14, Try.ntmps14
          go_wp2_with (first | ((with_reducible refine gate_callee (f := 39) rfl ?_); refine goesL_ (some 14) rfl rfl Try.func39 (by kernel_rfl) rfl #[.string (a0.extract 0 ((ji2) : Int).toNat)] rfl (by (try simp only [List.map_toArray, List.map_cons, List.map_nil]); first | done | (simp only [hji2]; rfl) | rfl | (simp only [List.length_drop, List.length_take]; rfl)) ?_; (with_reducible refine (journal_scan.calls k (a0.extract 0 ((ji2) : Int).toNat) t189 t190 t191 _ A5.out).mono ?_); rintro e w8 ⟨v192, rfl, ho0, hb⟩; refine ⟨_, rfl, ?_⟩; have n0_ := Aside0.mk (Kd.R_lower ho0 (below_size (by repeat (first | (with_reducible first | exact HB.out | apply below_alloc | apply pw_below_drewN | apply below_drew1) | exact HB.out)))); have n1_ := Aside0.mk (below_step (by repeat (first | (with_reducible first | exact HB.out | apply below_alloc | apply pw_below_drewN | apply below_drew1) | exact HB.out)) hb); clear HB; have HO193 := n0_; have HB := n1_; clear n0_ n1_; (try clear hb); (try clear hb2); (try clear hk); (try clear hi); (try clear ho0)))
          go_ret2
          exact ⟨_, by first | rfl | (simp [errW_none, errW_some] <;> rfl) | (simp only [← hji2]; first | rfl | (simp [errW_none, errW_some] <;> rfl)) | (simp [*, errW_none, errW_some] <;> rfl), by (with_reducible repeat (first | apply Kd.R_alloc | apply Kd.R_drewN | apply Kd.R_drew)); exact HO193.out, by repeat (first | (with_reducible first | exact HB.out | apply below_alloc | apply pw_below_drewN | apply below_drew1) | exact HB.out)⟩
        · rw [if_neg c7] at H
          exact absurd H (by simp)
      · rw [if_neg c6] at H
        exact absurd H (by simp)
    · rw [if_neg c4] at H
      exact absurd H (by simp)
  · rw [if_neg c3] at H
    exact absurd H (by simp)

/-! ### glossatorref3_Frame: function 15 -/
def glossatorref3_Frame.f (k : Nat) (a0_0 : ByteArray) (a0_1 : ByteArray) (a0_2 : Bool) : Option (ByteArray) := if a0_2 = true then ((some (([1, ((a0_0.size : Int)) % 256] : List Int) : List Int)).bind fun y195 => (if (strOfNums y195).size + a0_0.size ≤ 9223372036854775807 then (if ((strOfNums y195) ++ a0_0).size + a0_1.size ≤ 9223372036854775807 then ((some (([(wrap64 (((((strOfNums y195) ++ a0_0) ++ a0_1).size : Int) / 256)) % 256, ((((strOfNums y195) ++ a0_0) ++ a0_1).size : Int) % 256] : List Int) : List Int)).bind fun y198 => (if (strOfNums y198).size + (((strOfNums y195) ++ a0_0) ++ a0_1).size ≤ 9223372036854775807 then ((glossatorref3_Checksum.f k ((strOfNums y198) ++ (((strOfNums y195) ++ a0_0) ++ a0_1))).bind fun t201 => ((glossatorref3_number32.f t201).bind fun t202 => (if (strOfNums y198).size + t202.size ≤ 9223372036854775807 then (if ((strOfNums y198) ++ t202).size + (((strOfNums y195) ++ a0_0) ++ a0_1).size ≤ 9223372036854775807 then (some (((strOfNums y198) ++ t202) ++ (((strOfNums y195) ++ a0_0) ++ a0_1))) else (none)) else (none)))) else (none))) else (none)) else (none))) else ((some (([0, ((a0_0.size : Int)) % 256] : List Int) : List Int)).bind fun y203 => (if (strOfNums y203).size + a0_0.size ≤ 9223372036854775807 then (if ((strOfNums y203) ++ a0_0).size + a0_1.size ≤ 9223372036854775807 then ((some (([(wrap64 (((((strOfNums y203) ++ a0_0) ++ a0_1).size : Int) / 256)) % 256, ((((strOfNums y203) ++ a0_0) ++ a0_1).size : Int) % 256] : List Int) : List Int)).bind fun y206 => (if (strOfNums y206).size + (((strOfNums y203) ++ a0_0) ++ a0_1).size ≤ 9223372036854775807 then ((glossatorref3_Checksum.f k ((strOfNums y206) ++ (((strOfNums y203) ++ a0_0) ++ a0_1))).bind fun t209 => ((glossatorref3_number32.f t209).bind fun t210 => (if (strOfNums y206).size + t210.size ≤ 9223372036854775807 then (if ((strOfNums y206) ++ t210).size + (((strOfNums y203) ++ a0_0) ++ a0_1).size ≤ 9223372036854775807 then (some (((strOfNums y206) ++ t210) ++ (((strOfNums y203) ++ a0_0) ++ a0_1))) else (none)) else (none)))) else (none))) else (none)) else (none)))
theorem glossatorref3_Frame.mono : ∀ a0 a1 a2 k, LeO (glossatorref3_Frame.f k a0 a1 a2) (glossatorref3_Frame.f (k + 1) a0 a1 a2) := by
  intro a0 a1 a2 k
  unfold glossatorref3_Frame.f
  repeat' first
      | (with_reducible exact glossatorref3_Checksum.mono _ _)
      | (with_reducible exact LeO.refl _)
      | (with_reducible exact LeO.none _)
      | (with_reducible refine LeO.ite ?_ ?_)
      | (with_reducible refine LeO.bind ?_ (fun _ => ?_))
      | exact glossatorref3_Checksum.mono _ _
      | exact LeO.none _
      | refine LeO.ite ?_ ?_
      | refine LeO.bind ?_ (fun _ => ?_)
set_option maxHeartbeats 8000000 in
set_option maxRecDepth 100000 in
theorem glossatorref3_Frame.calls (k : Nat) (a0_0 : ByteArray) (a0_1 : ByteArray) (a0_2 : Bool) (r : ByteArray) (w : World) (h : glossatorref3_Frame.f k a0_0 a0_1 a0_2 = some r) :
    Calls Try.prog 15 #[.agg #[.string a0_0, .string a0_1, .bool a0_2]] w fun e w' => e = .returned (.string r) ∧ Below w.heap.size w w' := by
  have hu26 := Try.underlying26
  have HB := Aside0.mk (Below.refl w.heap.size w)
  have H : (if a0_2 = true then ((some (([1, ((a0_0.size : Int)) % 256] : List Int) : List Int)).bind fun y195 => (if (strOfNums y195).size + a0_0.size ≤ 9223372036854775807 then (if ((strOfNums y195) ++ a0_0).size + a0_1.size ≤ 9223372036854775807 then ((some (([(wrap64 (((((strOfNums y195) ++ a0_0) ++ a0_1).size : Int) / 256)) % 256, ((((strOfNums y195) ++ a0_0) ++ a0_1).size : Int) % 256] : List Int) : List Int)).bind fun y198 => (if (strOfNums y198).size + (((strOfNums y195) ++ a0_0) ++ a0_1).size ≤ 9223372036854775807 then ((glossatorref3_Checksum.f k ((strOfNums y198) ++ (((strOfNums y195) ++ a0_0) ++ a0_1))).bind fun t201 => ((glossatorref3_number32.f t201).bind fun t202 => (if (strOfNums y198).size + t202.size ≤ 9223372036854775807 then (if ((strOfNums y198) ++ t202).size + (((strOfNums y195) ++ a0_0) ++ a0_1).size ≤ 9223372036854775807 then (some (((strOfNums y198) ++ t202) ++ (((strOfNums y195) ++ a0_0) ++ a0_1))) else (none)) else (none)))) else (none))) else (none)) else (none))) else ((some (([0, ((a0_0.size : Int)) % 256] : List Int) : List Int)).bind fun y203 => (if (strOfNums y203).size + a0_0.size ≤ 9223372036854775807 then (if ((strOfNums y203) ++ a0_0).size + a0_1.size ≤ 9223372036854775807 then ((some (([(wrap64 (((((strOfNums y203) ++ a0_0) ++ a0_1).size : Int) / 256)) % 256, ((((strOfNums y203) ++ a0_0) ++ a0_1).size : Int) % 256] : List Int) : List Int)).bind fun y206 => (if (strOfNums y206).size + (((strOfNums y203) ++ a0_0) ++ a0_1).size ≤ 9223372036854775807 then ((glossatorref3_Checksum.f k ((strOfNums y206) ++ (((strOfNums y203) ++ a0_0) ++ a0_1))).bind fun t209 => ((glossatorref3_number32.f t209).bind fun t210 => (if (strOfNums y206).size + t210.size ≤ 9223372036854775807 then (if ((strOfNums y206) ++ t210).size + (((strOfNums y203) ++ a0_0) ++ a0_1).size ≤ 9223372036854775807 then (some (((strOfNums y206) ++ t210) ++ (((strOfNums y203) ++ a0_0) ++ a0_1))) else (none)) else (none)))) else (none))) else (none)) else (none)))) = some r := h
  clear h
  by_cases c2 : a0_2 = true
  · subst c2
    have H1 : ((some (([1, ((a0_0.size : Int)) % 256] : List Int) : List Int)).bind fun y195 => (if (strOfNums y195).size + a0_0.size ≤ 9223372036854775807 then (if ((strOfNums y195) ++ a0_0).size + a0_1.size ≤ 9223372036854775807 then ((some (([(wrap64 (((((strOfNums y195) ++ a0_0) ++ a0_1).size : Int) / 256)) % 256, ((((strOfNums y195) ++ a0_0) ++ a0_1).size : Int) % 256] : List Int) : List Int)).bind fun y198 => (if (strOfNums y198).size + (((strOfNums y195) ++ a0_0) ++ a0_1).size ≤ 9223372036854775807 then ((glossatorref3_Checksum.f k ((strOfNums y198) ++ (((strOfNums y195) ++ a0_0) ++ a0_1))).bind fun t201 => ((glossatorref3_number32.f t201).bind fun t202 => (if (strOfNums y198).size + t202.size ≤ 9223372036854775807 then (if ((strOfNums y198) ++ t202).size + (((strOfNums y195) ++ a0_0) ++ a0_1).size ≤ 9223372036854775807 then (some (((strOfNums y198) ++ t202) ++ (((strOfNums y195) ++ a0_0) ++ a0_1))) else (none)) else (none)))) else (none))) else (none)) else (none))) = some r := by rw [if_pos rfl] at H; exact H
    clear H
    have H := H1
    clear H1
    obtain ⟨y195, hy195⟩ : ∃ y_ : List Int, y_ = (([1, ((a0_0.size : Int)) % 256] : List Int)) := ⟨_, rfl⟩
    replace H : (if (strOfNums y195).size + a0_0.size ≤ 9223372036854775807 then (if ((strOfNums y195) ++ a0_0).size + a0_1.size ≤ 9223372036854775807 then ((some (([(wrap64 (((((strOfNums y195) ++ a0_0) ++ a0_1).size : Int) / 256)) % 256, ((((strOfNums y195) ++ a0_0) ++ a0_1).size : Int) % 256] : List Int) : List Int)).bind fun y198 => (if (strOfNums y198).size + (((strOfNums y195) ++ a0_0) ++ a0_1).size ≤ 9223372036854775807 then ((glossatorref3_Checksum.f k ((strOfNums y198) ++ (((strOfNums y195) ++ a0_0) ++ a0_1))).bind fun t201 => ((glossatorref3_number32.f t201).bind fun t202 => (if (strOfNums y198).size + t202.size ≤ 9223372036854775807 then (if ((strOfNums y198) ++ t202).size + (((strOfNums y195) ++ a0_0) ++ a0_1).size ≤ 9223372036854775807 then (some (((strOfNums y198) ++ t202) ++ (((strOfNums y195) ++ a0_0) ++ a0_1))) else (none)) else (none)))) else (none))) else (none)) else (none)) = some r := by first | (rw [hy195]; with_reducible exact H) | (have H2_ := (Option.bind_some _ _).symm.trans H; rw [hy195]; with_reducible exact H2_) | (have H2_ := (Option.bind_some _ _).symm.trans H; with_reducible exact H2_) | with_reducible exact H | (rw [hy195]; exact H) | exact H
    have Ny195 := Aside0.mk hy195
    clear hy195
    by_cases c3 : (strOfNums y195).size + a0_0.size ≤ 9223372036854775807
    · rw [if_pos c3] at H
      have c3b0 := eq_true c3
      have c3b1 : decide ((strOfNums y195).size + a0_0.size ≤ 9223372036854775807) = true := decide_eq_true c3
      try have c3b2 : (9223372036854775807 < (strOfNums y195).size + a0_0.size) = False := eq_false (Nat.not_lt.2 c3)
      by_cases c4 : ((strOfNums y195) ++ a0_0).size + a0_1.size ≤ 9223372036854775807
      · rw [if_pos c4] at H
        have c4b0 := eq_true c4
        have c4b1 : decide (((strOfNums y195) ++ a0_0).size + a0_1.size ≤ 9223372036854775807) = true := decide_eq_true c4
        try have c4b2 : (9223372036854775807 < ((strOfNums y195) ++ a0_0).size + a0_1.size) = False := eq_false (Nat.not_lt.2 c4)
        obtain ⟨y198, hy198⟩ : ∃ y_ : List Int, y_ = (([(wrap64 (((((strOfNums y195) ++ a0_0) ++ a0_1).size : Int) / 256)) % 256, ((((strOfNums y195) ++ a0_0) ++ a0_1).size : Int) % 256] : List Int)) := ⟨_, rfl⟩
        replace H : (if (strOfNums y198).size + (((strOfNums y195) ++ a0_0) ++ a0_1).size ≤ 9223372036854775807 then ((glossatorref3_Checksum.f k ((strOfNums y198) ++ (((strOfNums y195) ++ a0_0) ++ a0_1))).bind fun t201 => ((glossatorref3_number32.f t201).bind fun t202 => (if (strOfNums y198).size + t202.size ≤ 9223372036854775807 then (if ((strOfNums y198) ++ t202).size + (((strOfNums y195) ++ a0_0) ++ a0_1).size ≤ 9223372036854775807 then (some (((strOfNums y198) ++ t202) ++ (((strOfNums y195) ++ a0_0) ++ a0_1))) else (none)) else (none)))) else (none)) = some r := by first | (rw [hy198]; with_reducible exact H) | (have H2_ := (Option.bind_some _ _).symm.trans H; rw [hy198]; with_reducible exact H2_) | (have H2_ := (Option.bind_some _ _).symm.trans H; with_reducible exact H2_) | with_reducible exact H | (rw [hy198]; exact H) | exact H
        have Ny198 := Aside0.mk hy198
        clear hy198
        by_cases c5 : (strOfNums y198).size + (((strOfNums y195) ++ a0_0) ++ a0_1).size ≤ 9223372036854775807
        · rw [if_pos c5] at H
          have c5b0 := eq_true c5
          have c5b1 : decide ((strOfNums y198).size + (((strOfNums y195) ++ a0_0) ++ a0_1).size ≤ 9223372036854775807) = true := decide_eq_true c5
          try have c5b2 : (9223372036854775807 < (strOfNums y198).size + (((strOfNums y195) ++ a0_0) ++ a0_1).size) = False := eq_false (Nat.not_lt.2 c5)
          replace H := Option.bind_eq_some_iff.mp H
          obtain ⟨t201, A60, H⟩ := H
          replace H : ((glossatorref3_number32.f t201).bind fun t202 => (if (strOfNums y198).size + t202.size ≤ 9223372036854775807 then (if ((strOfNums y198) ++ t202).size + (((strOfNums y195) ++ a0_0) ++ a0_1).size ≤ 9223372036854775807 then (some (((strOfNums y198) ++ t202) ++ (((strOfNums y195) ++ a0_0) ++ a0_1))) else (none)) else (none))) = some r := H
          have A6 := Aside0.mk A60
          clear A60
          replace H := Option.bind_eq_some_iff.mp H
          obtain ⟨t202, A70, H⟩ := H
          replace H : (if (strOfNums y198).size + t202.size ≤ 9223372036854775807 then (if ((strOfNums y198) ++ t202).size + (((strOfNums y195) ++ a0_0) ++ a0_1).size ≤ 9223372036854775807 then (some (((strOfNums y198) ++ t202) ++ (((strOfNums y195) ++ a0_0) ++ a0_1))) else (none)) else (none)) = some r := H
          have A7 := Aside0.mk A70
          clear A70
          by_cases c8 : (strOfNums y198).size + t202.size ≤ 9223372036854775807
          · rw [if_pos c8] at H
            have c8b0 := eq_true c8
            have c8b1 : decide ((strOfNums y198).size + t202.size ≤ 9223372036854775807) = true := decide_eq_true c8
            try have c8b2 : (9223372036854775807 < (strOfNums y198).size + t202.size) = False := eq_false (Nat.not_lt.2 c8)
            by_cases c9 : ((strOfNums y198) ++ t202).size + (((strOfNums y195) ++ a0_0) ++ a0_1).size ≤ 9223372036854775807
            · rw [if_pos c9] at H
              have c9b0 := eq_true c9
              have c9b1 : decide (((strOfNums y198) ++ t202).size + (((strOfNums y195) ++ a0_0) ++ a0_1).size ≤ 9223372036854775807) = true := decide_eq_true c9
              try have c9b2 : (9223372036854775807 < ((strOfNums y198) ++ t202).size + (((strOfNums y195) ++ a0_0) ++ a0_1).size) = False := eq_false (Nat.not_lt.2 c9)
              obtain rfl := Option.some.inj H
              go_enter Try.func15, Try.ntmps15
              go_wp2_with (first | ((with_reducible refine gate_dst (N := 1) rfl ?_); refine box_event ?hg (N := 1) ?hd (cs := #[.string a0_0, .string a0_1, .bool true]) (t := 26) ?hr ?_; (case hd => rfl); (case hg => rfl); (case hr => first | (go_simp; done) | (go_simp; rfl)); intro gb194 hg w10 hbox hb; have n0_ := Aside0.mk (below_step (by repeat (first | (with_reducible first | exact HB.out | apply below_alloc | apply pw_below_drewN | apply below_drew1) | exact HB.out)) hb); have n1_ := Aside0.mk (hbox); have n2_ := Aside0.mk ((by rw [hg]; exact (below_size (by repeat (first | (with_reducible first | exact HB.out | apply below_alloc | apply pw_below_drewN | apply below_drew1) | exact HB.out))) : w.heap.size ≤ gb194)); have n3_ := Aside0.mk ((by rw [hg]; exact (below_size (by repeat (first | (with_reducible first | exact HB.out | apply below_alloc | apply pw_below_drewN | apply below_drew1) | exact HB.out))) : w.heap.size ≤ gb194)); clear HB; have HB := n0_; have BK194 := n1_; have GW194 := n2_; have GE194 := n3_; clear n0_ n1_ n2_ n3_; clear hb hbox hg; have hcz11_0 : w10.cell? ⟨gb194, 0, none⟩ = some (.string a0_0) := (blk_cell BK194.out 0).trans rfl; have hcz11_1 : w10.cell? ⟨gb194, 1, none⟩ = some (.string a0_1) := (blk_cell BK194.out 1).trans rfl; have hcz11_2 : w10.cell? ⟨gb194, 2, none⟩ = some (.bool true) := (blk_cell BK194.out 2).trans rfl; have hfz11_0 := blk_frozen BK194.out 0; have hfz11_1 := blk_frozen BK194.out 1; have hfz11_2 := blk_frozen BK194.out 2) | ((with_reducible refine gate_dst (N := 13) rfl ?_); refine Kd.R_lit (Kd.int .u8) _ 5 ?hg (N := 13) ?hd (xs := ([1, ((a0_0.size : Int)) % 256] : List Int)) (inner := [.int .u8 1, .int .u8 (((a0_0.size : Int)) % 256)]) (ok := fun _ => True) (okp := fun _ => True) ?hr ?hp (fun _ hk => hk) trivial (Below.refl _ _) (Nat.le_refl _) (by simp) ?_; (case hd => rfl); (case hg => rfl); (case hr => first | (go_simp; done) | (go_simp; rfl)); (case hp => exact (Reps.one (show Kd.M (Kd.int .u8) _ _ _ 1 [.int .u8 1] from rfl) (Reps.one (show Kd.M (Kd.int .u8) _ _ _ (((a0_0.size : Int)) % 256) [.int .u8 (((a0_0.size : Int)) % 256)] from rfl) (Reps.none _ _)))); intro v196 w12 ho13 hb hg_ hnew_; clear hg_ hnew_; (first | rw [← Ny195.out] at ho13 | (simp only [Int.reduceToNat] at ho13; rw [← Ny195.out] at ho13)); have n0_ := Aside0.mk (Kd.R_lower ho13 (below_size (by repeat (first | (with_reducible first | exact HB.out | apply below_alloc | apply pw_below_drewN | apply below_drew1 | refine below_set ?_ GE194.out) | exact HB.out)))); have n1_ := Aside0.mk (blk_below (g := gb194) (o := .cells #[.string a0_0, .string a0_1, .bool true] 26 (0, 0)) (by (with_reducible repeat (first | refine blk_drewN ?_ _ | refine blk_drew ?_ | refine blk_alloc ?_ _)); exact BK194.out) hb); have n2_ := Aside0.mk (below_step (by repeat (first | (with_reducible first | exact HB.out | apply below_alloc | apply pw_below_drewN | apply below_drew1 | refine below_set ?_ GE194.out) | exact HB.out)) hb); clear BK194; clear HB; have HO197 := n0_; have BK194 := n1_; have HB := n2_; clear n0_ n1_ n2_; clear hb ho13; have hcv14 := own_string (P := Try.prog) Try.underlying76 Try.underlying5 Try.underlying9 (Kd.own_of_R HO197.out); have hcz15_0 : w12.cell? ⟨gb194, 0, none⟩ = some (.string a0_0) := (blk_cell BK194.out 0).trans rfl; have hcz15_1 : w12.cell? ⟨gb194, 1, none⟩ = some (.string a0_1) := (blk_cell BK194.out 1).trans rfl; have hcz15_2 : w12.cell? ⟨gb194, 2, none⟩ = some (.bool true) := (blk_cell BK194.out 2).trans rfl; have hfz15_0 := blk_frozen BK194.out 0; have hfz15_1 := blk_frozen BK194.out 1; have hfz15_2 := blk_frozen BK194.out 2) | ((with_reducible refine gate_dst (N := 29) rfl ?_); refine Kd.R_lit (Kd.int .u8) _ 5 ?hg (N := 29) ?hd (xs := ([(wrap64 (((((strOfNums y195) ++ a0_0) ++ a0_1).size : Int) / 256)) % 256, ((((strOfNums y195) ++ a0_0) ++ a0_1).size : Int) % 256] : List Int)) (inner := [.int .u8 ((wrap64 (((((strOfNums y195) ++ a0_0) ++ a0_1).size : Int) / 256)) % 256), .int .u8 (((((strOfNums y195) ++ a0_0) ++ a0_1).size : Int) % 256)]) (ok := fun _ => True) (okp := fun _ => True) ?hr ?hp (fun _ hk => hk) trivial (Below.refl _ _) (Nat.le_refl _) (by simp) ?_; (case hd => rfl); (case hg => rfl); (case hr => first | (go_simp; done) | (go_simp; rfl)); (case hp => exact (Reps.one (show Kd.M (Kd.int .u8) _ _ _ ((wrap64 (((((strOfNums y195) ++ a0_0) ++ a0_1).size : Int) / 256)) % 256) [.int .u8 ((wrap64 (((((strOfNums y195) ++ a0_0) ++ a0_1).size : Int) / 256)) % 256)] from rfl) (Reps.one (show Kd.M (Kd.int .u8) _ _ _ (((((strOfNums y195) ++ a0_0) ++ a0_1).size : Int) % 256) [.int .u8 (((((strOfNums y195) ++ a0_0) ++ a0_1).size : Int) % 256)] from rfl) (Reps.none _ _)))); intro v199 w16 ho17 hb hg_ hnew_; clear hg_ hnew_; (first | rw [← Ny198.out] at ho17 | (simp only [Int.reduceToNat] at ho17; rw [← Ny198.out] at ho17)); have n0_ := Aside0.mk (Kd.R_elder' (by (with_reducible repeat (first | apply Kd.R_alloc | apply Kd.R_drewN | apply Kd.R_drew)); exact HO197.out) (Kd.R_base ho17) hb); have n1_ := Aside0.mk (Kd.R_lower (Kd.R_new' ho17 (Kd.R_lt (by (with_reducible repeat (first | apply Kd.R_alloc | apply Kd.R_drewN | apply Kd.R_drew)); exact HO197.out))) (below_size (by repeat (first | (with_reducible first | exact HB.out | apply below_alloc | apply pw_below_drewN | apply below_drew1 | refine below_set ?_ GE194.out) | exact HB.out)))); have n2_ := Aside0.mk (blk_below (g := gb194) (o := .cells #[.string a0_0, .string a0_1, .bool true] 26 (0, 0)) (by (with_reducible repeat (first | refine blk_drewN ?_ _ | refine blk_drew ?_ | refine blk_alloc ?_ _)); exact BK194.out) hb); have n3_ := Aside0.mk (below_step (by repeat (first | (with_reducible first | exact HB.out | apply below_alloc | apply pw_below_drewN | apply below_drew1 | refine below_set ?_ GE194.out) | exact HB.out)) hb); clear HO197; clear BK194; clear HB; have HO197 := n0_; have HO200 := n1_; have BK194 := n2_; have HB := n3_; clear n0_ n1_ n2_ n3_; clear hb ho17; have hcv18 := own_string (P := Try.prog) Try.underlying76 Try.underlying5 Try.underlying9 (Kd.own_of_R HO200.out)) | ((with_reducible refine gate_callee (f := 43) rfl ?_); refine goesL_ (some 35) rfl rfl Try.func43 (by kernel_rfl) rfl #[.string ((strOfNums y198) ++ (((strOfNums y195) ++ a0_0) ++ a0_1))] rfl (by (try simp only [List.map_toArray, List.map_cons, List.map_nil]); first | done | rfl | (simp only [List.length_drop, List.length_take]; rfl)) ?_; (with_reducible refine (glossatorref3_Checksum.calls k ((strOfNums y198) ++ (((strOfNums y195) ++ a0_0) ++ a0_1)) t201 _ A6.out).mono ?_); rintro e w' ⟨rfl, ⟨nd, rfl⟩⟩; refine ⟨_, rfl, ?_⟩) | ((with_reducible refine gate_callee (f := 42) rfl ?_); refine goesL_ (some 36) rfl rfl Try.func42 (by kernel_rfl) rfl #[.int .u32 t201] rfl (by (try simp only [List.map_toArray, List.map_cons, List.map_nil]); first | done | rfl | (simp only [List.length_drop, List.length_take]; rfl)) ?_; (with_reducible refine (glossatorref3_number32.calls t201 t202 _ A7.out).mono ?_); rintro e w19 ⟨rfl, hb⟩; refine ⟨_, rfl, ?_⟩; have n0_ := Aside0.mk (Kd.R_below (by (with_reducible repeat (first | apply Kd.R_alloc | apply Kd.R_drewN | apply Kd.R_drew)); exact HO197.out) hb); have n1_ := Aside0.mk (Kd.R_below (by (with_reducible repeat (first | apply Kd.R_alloc | apply Kd.R_drewN | apply Kd.R_drew)); exact HO200.out) hb); have n2_ := Aside0.mk (blk_below (g := gb194) (o := .cells #[.string a0_0, .string a0_1, .bool true] 26 (0, 0)) (by (with_reducible repeat (first | refine blk_drewN ?_ _ | refine blk_drew ?_ | refine blk_alloc ?_ _)); exact BK194.out) hb); have n3_ := Aside0.mk (below_step (by repeat (first | (with_reducible first | exact HB.out | apply below_alloc | apply pw_below_drewN | apply below_drew1 | refine below_set ?_ GE194.out) | exact HB.out)) hb); clear HO197; clear HO200; clear BK194; clear HB; have HO197 := n0_; have HO200 := n1_; have BK194 := n2_; have HB := n3_; clear n0_ n1_ n2_ n3_; (try clear hb); (try clear hb2); (try clear hk); (try clear hi)))
              go_ret
              exact ⟨by first | rfl | (simp [errW_none, errW_some] <;> rfl) | (simp [*, errW_none, errW_some] <;> rfl), by repeat (first | (with_reducible first | exact HB.out | apply below_alloc | apply pw_below_drewN | apply below_drew1 | refine below_set ?_ GE194.out) | exact HB.out)⟩
            · rw [if_neg c9] at H
              exact absurd H (by simp)
          · rw [if_neg c8] at H
            exact absurd H (by simp)
        · rw [if_neg c5] at H
          exact absurd H (by simp)
      · rw [if_neg c4] at H
        exact absurd H (by simp)
    · rw [if_neg c3] at H
      exact absurd H (by simp)
  · replace c2 := Bool.eq_false_iff.mpr c2
    subst c2
    have H1 : ((some (([0, ((a0_0.size : Int)) % 256] : List Int) : List Int)).bind fun y203 => (if (strOfNums y203).size + a0_0.size ≤ 9223372036854775807 then (if ((strOfNums y203) ++ a0_0).size + a0_1.size ≤ 9223372036854775807 then ((some (([(wrap64 (((((strOfNums y203) ++ a0_0) ++ a0_1).size : Int) / 256)) % 256, ((((strOfNums y203) ++ a0_0) ++ a0_1).size : Int) % 256] : List Int) : List Int)).bind fun y206 => (if (strOfNums y206).size + (((strOfNums y203) ++ a0_0) ++ a0_1).size ≤ 9223372036854775807 then ((glossatorref3_Checksum.f k ((strOfNums y206) ++ (((strOfNums y203) ++ a0_0) ++ a0_1))).bind fun t209 => ((glossatorref3_number32.f t209).bind fun t210 => (if (strOfNums y206).size + t210.size ≤ 9223372036854775807 then (if ((strOfNums y206) ++ t210).size + (((strOfNums y203) ++ a0_0) ++ a0_1).size ≤ 9223372036854775807 then (some (((strOfNums y206) ++ t210) ++ (((strOfNums y203) ++ a0_0) ++ a0_1))) else (none)) else (none)))) else (none))) else (none)) else (none))) = some r := by rw [if_neg (show ¬ (false = true) by decide)] at H; exact H
    clear H
    have H := H1
    clear H1
    obtain ⟨y203, hy203⟩ : ∃ y_ : List Int, y_ = (([0, ((a0_0.size : Int)) % 256] : List Int)) := ⟨_, rfl⟩
    replace H : (if (strOfNums y203).size + a0_0.size ≤ 9223372036854775807 then (if ((strOfNums y203) ++ a0_0).size + a0_1.size ≤ 9223372036854775807 then ((some (([(wrap64 (((((strOfNums y203) ++ a0_0) ++ a0_1).size : Int) / 256)) % 256, ((((strOfNums y203) ++ a0_0) ++ a0_1).size : Int) % 256] : List Int) : List Int)).bind fun y206 => (if (strOfNums y206).size + (((strOfNums y203) ++ a0_0) ++ a0_1).size ≤ 9223372036854775807 then ((glossatorref3_Checksum.f k ((strOfNums y206) ++ (((strOfNums y203) ++ a0_0) ++ a0_1))).bind fun t209 => ((glossatorref3_number32.f t209).bind fun t210 => (if (strOfNums y206).size + t210.size ≤ 9223372036854775807 then (if ((strOfNums y206) ++ t210).size + (((strOfNums y203) ++ a0_0) ++ a0_1).size ≤ 9223372036854775807 then (some (((strOfNums y206) ++ t210) ++ (((strOfNums y203) ++ a0_0) ++ a0_1))) else (none)) else (none)))) else (none))) else (none)) else (none)) = some r := by first | (rw [hy203]; with_reducible exact H) | (have H2_ := (Option.bind_some _ _).symm.trans H; rw [hy203]; with_reducible exact H2_) | (have H2_ := (Option.bind_some _ _).symm.trans H; with_reducible exact H2_) | with_reducible exact H | (rw [hy203]; exact H) | exact H
    have Ny203 := Aside0.mk hy203
    clear hy203
    by_cases c20 : (strOfNums y203).size + a0_0.size ≤ 9223372036854775807
    · rw [if_pos c20] at H
      have c20b0 := eq_true c20
      have c20b1 : decide ((strOfNums y203).size + a0_0.size ≤ 9223372036854775807) = true := decide_eq_true c20
      try have c20b2 : (9223372036854775807 < (strOfNums y203).size + a0_0.size) = False := eq_false (Nat.not_lt.2 c20)
      by_cases c21 : ((strOfNums y203) ++ a0_0).size + a0_1.size ≤ 9223372036854775807
      · rw [if_pos c21] at H
        have c21b0 := eq_true c21
        have c21b1 : decide (((strOfNums y203) ++ a0_0).size + a0_1.size ≤ 9223372036854775807) = true := decide_eq_true c21
        try have c21b2 : (9223372036854775807 < ((strOfNums y203) ++ a0_0).size + a0_1.size) = False := eq_false (Nat.not_lt.2 c21)
        obtain ⟨y206, hy206⟩ : ∃ y_ : List Int, y_ = (([(wrap64 (((((strOfNums y203) ++ a0_0) ++ a0_1).size : Int) / 256)) % 256, ((((strOfNums y203) ++ a0_0) ++ a0_1).size : Int) % 256] : List Int)) := ⟨_, rfl⟩
        replace H : (if (strOfNums y206).size + (((strOfNums y203) ++ a0_0) ++ a0_1).size ≤ 9223372036854775807 then ((glossatorref3_Checksum.f k ((strOfNums y206) ++ (((strOfNums y203) ++ a0_0) ++ a0_1))).bind fun t209 => ((glossatorref3_number32.f t209).bind fun t210 => (if (strOfNums y206).size + t210.size ≤ 9223372036854775807 then (if ((strOfNums y206) ++ t210).size + (((strOfNums y203) ++ a0_0) ++ a0_1).size ≤ 9223372036854775807 then (some (((strOfNums y206) ++ t210) ++ (((strOfNums y203) ++ a0_0) ++ a0_1))) else (none)) else (none)))) else (none)) = some r := by first | (rw [hy206]; with_reducible exact H) | (have H2_ := (Option.bind_some _ _).symm.trans H; rw [hy206]; with_reducible exact H2_) | (have H2_ := (Option.bind_some _ _).symm.trans H; with_reducible exact H2_) | with_reducible exact H | (rw [hy206]; exact H) | exact H
        have Ny206 := Aside0.mk hy206
        clear hy206
        by_cases c22 : (strOfNums y206).size + (((strOfNums y203) ++ a0_0) ++ a0_1).size ≤ 9223372036854775807
        · rw [if_pos c22] at H
          have c22b0 := eq_true c22
          have c22b1 : decide ((strOfNums y206).size + (((strOfNums y203) ++ a0_0) ++ a0_1).size ≤ 9223372036854775807) = true := decide_eq_true c22
          try have c22b2 : (9223372036854775807 < (strOfNums y206).size + (((strOfNums y203) ++ a0_0) ++ a0_1).size) = False := eq_false (Nat.not_lt.2 c22)
          replace H := Option.bind_eq_some_iff.mp H
          obtain ⟨t209, A230, H⟩ := H
          replace H : ((glossatorref3_number32.f t209).bind fun t210 => (if (strOfNums y206).size + t210.size ≤ 9223372036854775807 then (if ((strOfNums y206) ++ t210).size + (((strOfNums y203) ++ a0_0) ++ a0_1).size ≤ 9223372036854775807 then (some (((strOfNums y206) ++ t210) ++ (((strOfNums y203) ++ a0_0) ++ a0_1))) else (none)) else (none))) = some r := H
          have A23 := Aside0.mk A230
          clear A230
          replace H := Option.bind_eq_some_iff.mp H
          obtain ⟨t210, A240, H⟩ := H
          replace H : (if (strOfNums y206).size + t210.size ≤ 9223372036854775807 then (if ((strOfNums y206) ++ t210).size + (((strOfNums y203) ++ a0_0) ++ a0_1).size ≤ 9223372036854775807 then (some (((strOfNums y206) ++ t210) ++ (((strOfNums y203) ++ a0_0) ++ a0_1))) else (none)) else (none)) = some r := H
          have A24 := Aside0.mk A240
          clear A240
          by_cases c25 : (strOfNums y206).size + t210.size ≤ 9223372036854775807
          · rw [if_pos c25] at H
            have c25b0 := eq_true c25
            have c25b1 : decide ((strOfNums y206).size + t210.size ≤ 9223372036854775807) = true := decide_eq_true c25
            try have c25b2 : (9223372036854775807 < (strOfNums y206).size + t210.size) = False := eq_false (Nat.not_lt.2 c25)
            by_cases c26 : ((strOfNums y206) ++ t210).size + (((strOfNums y203) ++ a0_0) ++ a0_1).size ≤ 9223372036854775807
            · rw [if_pos c26] at H
              have c26b0 := eq_true c26
              have c26b1 : decide (((strOfNums y206) ++ t210).size + (((strOfNums y203) ++ a0_0) ++ a0_1).size ≤ 9223372036854775807) = true := decide_eq_true c26
              try have c26b2 : (9223372036854775807 < ((strOfNums y206) ++ t210).size + (((strOfNums y203) ++ a0_0) ++ a0_1).size) = False := eq_false (Nat.not_lt.2 c26)
              obtain rfl := Option.some.inj H
              go_enter Try.func15, Try.ntmps15
              go_wp2_with (first | ((with_reducible refine gate_dst (N := 1) rfl ?_); refine box_event ?hg (N := 1) ?hd (cs := #[.string a0_0, .string a0_1, .bool false]) (t := 26) ?hr ?_; (case hd => rfl); (case hg => rfl); (case hr => first | (go_simp; done) | (go_simp; rfl)); intro gb194 hg w27 hbox hb; have n0_ := Aside0.mk (below_step (by repeat (first | (with_reducible first | exact HB.out | apply below_alloc | apply pw_below_drewN | apply below_drew1) | exact HB.out)) hb); have n1_ := Aside0.mk (hbox); have n2_ := Aside0.mk ((by rw [hg]; exact (below_size (by repeat (first | (with_reducible first | exact HB.out | apply below_alloc | apply pw_below_drewN | apply below_drew1) | exact HB.out))) : w.heap.size ≤ gb194)); have n3_ := Aside0.mk ((by rw [hg]; exact (below_size (by repeat (first | (with_reducible first | exact HB.out | apply below_alloc | apply pw_below_drewN | apply below_drew1) | exact HB.out))) : w.heap.size ≤ gb194)); clear HB; have HB := n0_; have BK194 := n1_; have GW194 := n2_; have GE194 := n3_; clear n0_ n1_ n2_ n3_; clear hb hbox hg; have hcz28_0 : w27.cell? ⟨gb194, 0, none⟩ = some (.string a0_0) := (blk_cell BK194.out 0).trans rfl; have hcz28_1 : w27.cell? ⟨gb194, 1, none⟩ = some (.string a0_1) := (blk_cell BK194.out 1).trans rfl; have hcz28_2 : w27.cell? ⟨gb194, 2, none⟩ = some (.bool false) := (blk_cell BK194.out 2).trans rfl; have hfz28_0 := blk_frozen BK194.out 0; have hfz28_1 := blk_frozen BK194.out 1; have hfz28_2 := blk_frozen BK194.out 2) | ((with_reducible refine gate_dst (N := 13) rfl ?_); refine Kd.R_lit (Kd.int .u8) _ 5 ?hg (N := 13) ?hd (xs := ([0, ((a0_0.size : Int)) % 256] : List Int)) (inner := [.int .u8 0, .int .u8 (((a0_0.size : Int)) % 256)]) (ok := fun _ => True) (okp := fun _ => True) ?hr ?hp (fun _ hk => hk) trivial (Below.refl _ _) (Nat.le_refl _) (by simp) ?_; (case hd => rfl); (case hg => rfl); (case hr => first | (go_simp; done) | (go_simp; rfl)); (case hp => exact (Reps.one (show Kd.M (Kd.int .u8) _ _ _ 0 [.int .u8 0] from rfl) (Reps.one (show Kd.M (Kd.int .u8) _ _ _ (((a0_0.size : Int)) % 256) [.int .u8 (((a0_0.size : Int)) % 256)] from rfl) (Reps.none _ _)))); intro v204 w29 ho30 hb hg_ hnew_; clear hg_ hnew_; (first | rw [← Ny203.out] at ho30 | (simp only [Int.reduceToNat] at ho30; rw [← Ny203.out] at ho30)); have n0_ := Aside0.mk (Kd.R_lower ho30 (below_size (by repeat (first | (with_reducible first | exact HB.out | apply below_alloc | apply pw_below_drewN | apply below_drew1 | refine below_set ?_ GE194.out) | exact HB.out)))); have n1_ := Aside0.mk (blk_below (g := gb194) (o := .cells #[.string a0_0, .string a0_1, .bool false] 26 (0, 0)) (by (with_reducible repeat (first | refine blk_drewN ?_ _ | refine blk_drew ?_ | refine blk_alloc ?_ _)); exact BK194.out) hb); have n2_ := Aside0.mk (below_step (by repeat (first | (with_reducible first | exact HB.out | apply below_alloc | apply pw_below_drewN | apply below_drew1 | refine below_set ?_ GE194.out) | exact HB.out)) hb); clear BK194; clear HB; have HO205 := n0_; have BK194 := n1_; have HB := n2_; clear n0_ n1_ n2_; clear hb ho30; have hcv31 := own_string (P := Try.prog) Try.underlying76 Try.underlying5 Try.underlying9 (Kd.own_of_R HO205.out); have hcz32_0 : w29.cell? ⟨gb194, 0, none⟩ = some (.string a0_0) := (blk_cell BK194.out 0).trans rfl; have hcz32_1 : w29.cell? ⟨gb194, 1, none⟩ = some (.string a0_1) := (blk_cell BK194.out 1).trans rfl; have hcz32_2 : w29.cell? ⟨gb194, 2, none⟩ = some (.bool false) := (blk_cell BK194.out 2).trans rfl; have hfz32_0 := blk_frozen BK194.out 0; have hfz32_1 := blk_frozen BK194.out 1; have hfz32_2 := blk_frozen BK194.out 2) | ((with_reducible refine gate_dst (N := 29) rfl ?_); refine Kd.R_lit (Kd.int .u8) _ 5 ?hg (N := 29) ?hd (xs := ([(wrap64 (((((strOfNums y203) ++ a0_0) ++ a0_1).size : Int) / 256)) % 256, ((((strOfNums y203) ++ a0_0) ++ a0_1).size : Int) % 256] : List Int)) (inner := [.int .u8 ((wrap64 (((((strOfNums y203) ++ a0_0) ++ a0_1).size : Int) / 256)) % 256), .int .u8 (((((strOfNums y203) ++ a0_0) ++ a0_1).size : Int) % 256)]) (ok := fun _ => True) (okp := fun _ => True) ?hr ?hp (fun _ hk => hk) trivial (Below.refl _ _) (Nat.le_refl _) (by simp) ?_; (case hd => rfl); (case hg => rfl); (case hr => first | (go_simp; done) | (go_simp; rfl)); (case hp => exact (Reps.one (show Kd.M (Kd.int .u8) _ _ _ ((wrap64 (((((strOfNums y203) ++ a0_0) ++ a0_1).size : Int) / 256)) % 256) [.int .u8 ((wrap64 (((((strOfNums y203) ++ a0_0) ++ a0_1).size : Int) / 256)) % 256)] from rfl) (Reps.one (show Kd.M (Kd.int .u8) _ _ _ (((((strOfNums y203) ++ a0_0) ++ a0_1).size : Int) % 256) [.int .u8 (((((strOfNums y203) ++ a0_0) ++ a0_1).size : Int) % 256)] from rfl) (Reps.none _ _)))); intro v207 w33 ho34 hb hg_ hnew_; clear hg_ hnew_; (first | rw [← Ny206.out] at ho34 | (simp only [Int.reduceToNat] at ho34; rw [← Ny206.out] at ho34)); have n0_ := Aside0.mk (Kd.R_elder' (by (with_reducible repeat (first | apply Kd.R_alloc | apply Kd.R_drewN | apply Kd.R_drew)); exact HO205.out) (Kd.R_base ho34) hb); have n1_ := Aside0.mk (Kd.R_lower (Kd.R_new' ho34 (Kd.R_lt (by (with_reducible repeat (first | apply Kd.R_alloc | apply Kd.R_drewN | apply Kd.R_drew)); exact HO205.out))) (below_size (by repeat (first | (with_reducible first | exact HB.out | apply below_alloc | apply pw_below_drewN | apply below_drew1 | refine below_set ?_ GE194.out) | exact HB.out)))); have n2_ := Aside0.mk (blk_below (g := gb194) (o := .cells #[.string a0_0, .string a0_1, .bool false] 26 (0, 0)) (by (with_reducible repeat (first | refine blk_drewN ?_ _ | refine blk_drew ?_ | refine blk_alloc ?_ _)); exact BK194.out) hb); have n3_ := Aside0.mk (below_step (by repeat (first | (with_reducible first | exact HB.out | apply below_alloc | apply pw_below_drewN | apply below_drew1 | refine below_set ?_ GE194.out) | exact HB.out)) hb); clear HO205; clear BK194; clear HB; have HO205 := n0_; have HO208 := n1_; have BK194 := n2_; have HB := n3_; clear n0_ n1_ n2_ n3_; clear hb ho34; have hcv35 := own_string (P := Try.prog) Try.underlying76 Try.underlying5 Try.underlying9 (Kd.own_of_R HO208.out)) | ((with_reducible refine gate_callee (f := 43) rfl ?_); refine goesL_ (some 35) rfl rfl Try.func43 (by kernel_rfl) rfl #[.string ((strOfNums y206) ++ (((strOfNums y203) ++ a0_0) ++ a0_1))] rfl (by (try simp only [List.map_toArray, List.map_cons, List.map_nil]); first | done | rfl | (simp only [List.length_drop, List.length_take]; rfl)) ?_; (with_reducible refine (glossatorref3_Checksum.calls k ((strOfNums y206) ++ (((strOfNums y203) ++ a0_0) ++ a0_1)) t209 _ A23.out).mono ?_); rintro e w' ⟨rfl, ⟨nd, rfl⟩⟩; refine ⟨_, rfl, ?_⟩) | ((with_reducible refine gate_callee (f := 42) rfl ?_); refine goesL_ (some 36) rfl rfl Try.func42 (by kernel_rfl) rfl #[.int .u32 t209] rfl (by (try simp only [List.map_toArray, List.map_cons, List.map_nil]); first | done | rfl | (simp only [List.length_drop, List.length_take]; rfl)) ?_; (with_reducible refine (glossatorref3_number32.calls t209 t210 _ A24.out).mono ?_); rintro e w36 ⟨rfl, hb⟩; refine ⟨_, rfl, ?_⟩; have n0_ := Aside0.mk (Kd.R_below (by (with_reducible repeat (first | apply Kd.R_alloc | apply Kd.R_drewN | apply Kd.R_drew)); exact HO205.out) hb); have n1_ := Aside0.mk (Kd.R_below (by (with_reducible repeat (first | apply Kd.R_alloc | apply Kd.R_drewN | apply Kd.R_drew)); exact HO208.out) hb); have n2_ := Aside0.mk (blk_below (g := gb194) (o := .cells #[.string a0_0, .string a0_1, .bool false] 26 (0, 0)) (by (with_reducible repeat (first | refine blk_drewN ?_ _ | refine blk_drew ?_ | refine blk_alloc ?_ _)); exact BK194.out) hb); have n3_ := Aside0.mk (below_step (by repeat (first | (with_reducible first | exact HB.out | apply below_alloc | apply pw_below_drewN | apply below_drew1 | refine below_set ?_ GE194.out) | exact HB.out)) hb); clear HO205; clear HO208; clear BK194; clear HB; have HO205 := n0_; have HO208 := n1_; have BK194 := n2_; have HB := n3_; clear n0_ n1_ n2_ n3_; (try clear hb); (try clear hb2); (try clear hk); (try clear hi)))
              go_ret
              exact ⟨by first | rfl | (simp [errW_none, errW_some] <;> rfl) | (simp [*, errW_none, errW_some] <;> rfl), by repeat (first | (with_reducible first | exact HB.out | apply below_alloc | apply pw_below_drewN | apply below_drew1 | refine below_set ?_ GE194.out) | exact HB.out)⟩
            · rw [if_neg c26] at H
              exact absurd H (by simp)
          · rw [if_neg c25] at H
            exact absurd H (by simp)
        · rw [if_neg c22] at H
          exact absurd H (by simp)
      · rw [if_neg c21] at H
        exact absurd H (by simp)
    · rw [if_neg c20] at H
      exact absurd H (by simp)

/-! ### glossatorlaw3_JournalRead: function 4 -/
mutual
def glossatorlaw3_JournalRead.j0 : Nat → ByteArray → List (S26) → Int → List (S26) → Int → Int → Bool → Option (Bool)
  | 0, _, _, _, _, _, _, _ => none
  | k + 1, x0, x8, x9, x11, x12, x13, x83 => if x83 = true then (some false) else ((journal_Compact.f k x0).bind fun bt235 => (if x13 = 0 then ((glossatorref3_State.f k x11).bind fun t238 => (glossatorlaw3_JournalRead.l0 k x8 x9 x11 x12 bt235.1 bt235.2 (⟨#[]⟩ : ByteArray) t238 (t238.length : Int) 0)) else ((glossatorlaw3_journalExample.f k).bind fun t237 => (if t237 = true then (if (x8.length : Int) = 0 then (if x9 = 0 then (if bt235.2 = x13 then (some (bt235.1.toList == ([] : List UInt8))) else (some false)) else (some false)) else (some false)) else (some false)))))
def glossatorlaw3_JournalRead.l0 : Nat → List (S26) → Int → List (S26) → Int → ByteArray → Int → ByteArray → List (S26) → Int → Int → Option (Bool)
  | 0, _, _, _, _, _, _, _, _, _, _ => none
  | k + 1, x8, x9, x11, x12, x16, x17, x18, x111, x112, x113 => if x113 < x112 then (if 0 ≤ x113 then (if x113 < (x111.length : Int) then ((glossatorref3_Frame.f k ((rd_T26 x111 x113).f0) ((rd_T26 x111 x113).f1) ((rd_T26 x111 x113).f2)).bind fun t243 => (if x18.size + t243.size ≤ 9223372036854775807 then (glossatorlaw3_JournalRead.l0 k x8 x9 x11 x12 x16 x17 (x18 ++ t243) x111 x112 (wrap64 (x113 + 1))) else (none))) else (none)) else (none)) else ((glossatorlaw3_journalExample.f k).bind fun t244 => (if t244 = true then ((api_QRecord.f k x8 x11).bind fun t245 => (if t245 = true then (if x9 = x12 then (if x17 = 0 then (some (x16.toList == x18.toList)) else (some false)) else (some false)) else (some false))) else (some false)))
end
def glossatorlaw3_JournalRead.f (k : Nat) (a0 : ByteArray) : Option (Bool) := (glossatorlaw3_journalExample.f k).bind fun t211 => (if t211 = true then (if (a0.size : Int) > 40000 then ((journal_Read.f k a0).bind fun bt212 => ((journal_Compact.f k a0).bind fun bt217 => ((glossatorlaw3_journalExample.f k).bind fun t219 => (if t219 = true then (if bt212.2.2 = 2 then (some (bt217.2 == 2)) else (some false)) else (some false))))) else (if 0 ≤ (mn (a0.size : Int) 3000) then (if (mn (a0.size : Int) 3000) ≤ (a0.size : Int) then ((journal_Read.f k (a0.extract 0 ((mn (a0.size : Int) 3000) : Int).toNat)).bind fun bt220 => ((glossatorref3_ReadJournal.f (a0.extract 0 ((mn (a0.size : Int) 3000) : Int).toNat)).bind fun bt225 => ((journal_Recover.f k (a0.extract 0 ((mn (a0.size : Int) 3000) : Int).toNat)).bind fun bt230 => (if 0 ≤ bt225.2.1 then (if bt225.2.1 ≤ ((a0.extract 0 ((mn (a0.size : Int) 3000) : Int).toNat).size : Int) then (if bt230.1.toList = ((a0.extract 0 ((mn (a0.size : Int) 3000) : Int).toNat).extract 0 (bt225.2.1 : Int).toNat).toList then ((api_QRecord.f k bt230.2 bt225.1).bind fun t234 => (if t234 = true then (glossatorlaw3_JournalRead.j0 k (a0.extract 0 ((mn (a0.size : Int) 3000) : Int).toNat) bt220.1 bt220.2.1 bt225.1 bt225.2.1 bt225.2.2 (bt220.2.2 != bt225.2.2)) else (glossatorlaw3_JournalRead.j0 k (a0.extract 0 ((mn (a0.size : Int) 3000) : Int).toNat) bt220.1 bt220.2.1 bt225.1 bt225.2.1 bt225.2.2 true))) else (glossatorlaw3_JournalRead.j0 k (a0.extract 0 ((mn (a0.size : Int) 3000) : Int).toNat) bt220.1 bt220.2.1 bt225.1 bt225.2.1 bt225.2.2 true)) else (none)) else (none))))) else (none)) else (none))) else (some false))
theorem glossatorlaw3_JournalRead.mono_l : ∀ k, (∀ y0 y1 y2 y3 y4 y5 y6, LeO (glossatorlaw3_JournalRead.j0 k y0 y1 y2 y3 y4 y5 y6) (glossatorlaw3_JournalRead.j0 (k + 1) y0 y1 y2 y3 y4 y5 y6)) ∧ (∀ y0 y1 y2 y3 y4 y5 y6 y7 y8 y9, LeO (glossatorlaw3_JournalRead.l0 k y0 y1 y2 y3 y4 y5 y6 y7 y8 y9) (glossatorlaw3_JournalRead.l0 (k + 1) y0 y1 y2 y3 y4 y5 y6 y7 y8 y9))
  | 0 => ⟨fun _ _ _ _ _ _ _ r h => by simp [glossatorlaw3_JournalRead.j0] at h, fun _ _ _ _ _ _ _ _ _ _ r h => by simp [glossatorlaw3_JournalRead.l0] at h⟩
  | k + 1 => by
    obtain ⟨ih0, ih1⟩ := glossatorlaw3_JournalRead.mono_l k
    refine ⟨?_, ?_⟩
    · intro y0 y1 y2 y3 y4 y5 y6
      unfold glossatorlaw3_JournalRead.j0
      repeat' first
      | (with_reducible exact ih0 _ _ _ _ _ _ _)
      | (with_reducible exact ih1 _ _ _ _ _ _ _ _ _ _)
      | (with_reducible exact api_QRecord.mono _ _ _)
      | (with_reducible exact glossatorlaw3_journalExample.mono _)
      | (with_reducible exact glossatorref3_Frame.mono _ _ _ _)
      | (with_reducible exact glossatorref3_State.mono _ _)
      | (with_reducible exact journal_Compact.mono _ _)
      | (with_reducible exact journal_Read.mono _ _)
      | (with_reducible exact journal_Recover.mono _ _)
      | (with_reducible exact LeO.refl _)
      | (with_reducible exact LeO.none _)
      | (with_reducible refine LeO.ite ?_ ?_)
      | (with_reducible refine LeO.bind ?_ (fun _ => ?_))
      | exact ih0 _ _ _ _ _ _ _
      | exact ih1 _ _ _ _ _ _ _ _ _ _
      | exact api_QRecord.mono _ _ _
      | exact glossatorlaw3_journalExample.mono _
      | exact glossatorref3_Frame.mono _ _ _ _
      | exact glossatorref3_State.mono _ _
      | exact journal_Compact.mono _ _
      | exact journal_Read.mono _ _
      | exact journal_Recover.mono _ _
      | exact LeO.none _
      | refine LeO.ite ?_ ?_
      | refine LeO.bind ?_ (fun _ => ?_)
    · intro y0 y1 y2 y3 y4 y5 y6 y7 y8 y9
      unfold glossatorlaw3_JournalRead.l0
      repeat' first
      | (with_reducible exact ih0 _ _ _ _ _ _ _)
      | (with_reducible exact ih1 _ _ _ _ _ _ _ _ _ _)
      | (with_reducible exact api_QRecord.mono _ _ _)
      | (with_reducible exact glossatorlaw3_journalExample.mono _)
      | (with_reducible exact glossatorref3_Frame.mono _ _ _ _)
      | (with_reducible exact glossatorref3_State.mono _ _)
      | (with_reducible exact journal_Compact.mono _ _)
      | (with_reducible exact journal_Read.mono _ _)
      | (with_reducible exact journal_Recover.mono _ _)
      | (with_reducible exact LeO.refl _)
      | (with_reducible exact LeO.none _)
      | (with_reducible refine LeO.ite ?_ ?_)
      | (with_reducible refine LeO.bind ?_ (fun _ => ?_))
      | exact ih0 _ _ _ _ _ _ _
      | exact ih1 _ _ _ _ _ _ _ _ _ _
      | exact api_QRecord.mono _ _ _
      | exact glossatorlaw3_journalExample.mono _
      | exact glossatorref3_Frame.mono _ _ _ _
      | exact glossatorref3_State.mono _ _
      | exact journal_Compact.mono _ _
      | exact journal_Read.mono _ _
      | exact journal_Recover.mono _ _
      | exact LeO.none _
      | refine LeO.ite ?_ ?_
      | refine LeO.bind ?_ (fun _ => ?_)
theorem glossatorlaw3_JournalRead.mono : ∀ a0 k, LeO (glossatorlaw3_JournalRead.f k a0) (glossatorlaw3_JournalRead.f (k + 1) a0) := by
  intro a0 k
  obtain ⟨ih0, ih1⟩ := glossatorlaw3_JournalRead.mono_l k
  unfold glossatorlaw3_JournalRead.f
  repeat' first
      | (with_reducible exact ih0 _ _ _ _ _ _ _)
      | (with_reducible exact ih1 _ _ _ _ _ _ _ _ _ _)
      | (with_reducible exact api_QRecord.mono _ _ _)
      | (with_reducible exact glossatorlaw3_journalExample.mono _)
      | (with_reducible exact glossatorref3_Frame.mono _ _ _ _)
      | (with_reducible exact glossatorref3_State.mono _ _)
      | (with_reducible exact journal_Compact.mono _ _)
      | (with_reducible exact journal_Read.mono _ _)
      | (with_reducible exact journal_Recover.mono _ _)
      | (with_reducible exact LeO.refl _)
      | (with_reducible exact LeO.none _)
      | (with_reducible refine LeO.ite ?_ ?_)
      | (with_reducible refine LeO.bind ?_ (fun _ => ?_))
      | exact ih0 _ _ _ _ _ _ _
      | exact ih1 _ _ _ _ _ _ _ _ _ _
      | exact api_QRecord.mono _ _ _
      | exact glossatorlaw3_journalExample.mono _
      | exact glossatorref3_Frame.mono _ _ _ _
      | exact glossatorref3_State.mono _ _
      | exact journal_Compact.mono _ _
      | exact journal_Read.mono _ _
      | exact journal_Recover.mono _ _
      | exact LeO.none _
      | refine LeO.ite ?_ ?_
      | refine LeO.bind ?_ (fun _ => ?_)
set_option maxHeartbeats 8000000 in
set_option maxRecDepth 100000 in
theorem glossatorlaw3_JournalRead.calls (k : Nat) (a0 : ByteArray) (r : Bool) (w : World) (h : glossatorlaw3_JournalRead.f k a0 = some r) :
    Calls Try.prog 4 #[.string a0] w fun e w' => e = .returned (.bool r) ∧ Below w.heap.size w w' := by
  have hu26 := Try.underlying26
  have HB := Aside0.mk (Below.refl w.heap.size w)
  have H : ((glossatorlaw3_journalExample.f k).bind fun t211 => (if t211 = true then (if (a0.size : Int) > 40000 then ((journal_Read.f k a0).bind fun bt212 => ((journal_Compact.f k a0).bind fun bt217 => ((glossatorlaw3_journalExample.f k).bind fun t219 => (if t219 = true then (if bt212.2.2 = 2 then (some (bt217.2 == 2)) else (some false)) else (some false))))) else (if 0 ≤ (mn (a0.size : Int) 3000) then (if (mn (a0.size : Int) 3000) ≤ (a0.size : Int) then ((journal_Read.f k (a0.extract 0 ((mn (a0.size : Int) 3000) : Int).toNat)).bind fun bt220 => ((glossatorref3_ReadJournal.f (a0.extract 0 ((mn (a0.size : Int) 3000) : Int).toNat)).bind fun bt225 => ((journal_Recover.f k (a0.extract 0 ((mn (a0.size : Int) 3000) : Int).toNat)).bind fun bt230 => (if 0 ≤ bt225.2.1 then (if bt225.2.1 ≤ ((a0.extract 0 ((mn (a0.size : Int) 3000) : Int).toNat).size : Int) then (if bt230.1.toList = ((a0.extract 0 ((mn (a0.size : Int) 3000) : Int).toNat).extract 0 (bt225.2.1 : Int).toNat).toList then ((api_QRecord.f k bt230.2 bt225.1).bind fun t234 => (if t234 = true then (glossatorlaw3_JournalRead.j0 k (a0.extract 0 ((mn (a0.size : Int) 3000) : Int).toNat) bt220.1 bt220.2.1 bt225.1 bt225.2.1 bt225.2.2 (bt220.2.2 != bt225.2.2)) else (glossatorlaw3_JournalRead.j0 k (a0.extract 0 ((mn (a0.size : Int) 3000) : Int).toNat) bt220.1 bt220.2.1 bt225.1 bt225.2.1 bt225.2.2 true))) else (glossatorlaw3_JournalRead.j0 k (a0.extract 0 ((mn (a0.size : Int) 3000) : Int).toNat) bt220.1 bt220.2.1 bt225.1 bt225.2.1 bt225.2.2 true)) else (none)) else (none))))) else (none)) else (none))) else (some false))) = some r := h
  clear h
  replace H := Option.bind_eq_some_iff.mp H
  obtain ⟨t211, A20, H⟩ := H
  replace H : (if t211 = true then (if (a0.size : Int) > 40000 then ((journal_Read.f k a0).bind fun bt212 => ((journal_Compact.f k a0).bind fun bt217 => ((glossatorlaw3_journalExample.f k).bind fun t219 => (if t219 = true then (if bt212.2.2 = 2 then (some (bt217.2 == 2)) else (some false)) else (some false))))) else (if 0 ≤ (mn (a0.size : Int) 3000) then (if (mn (a0.size : Int) 3000) ≤ (a0.size : Int) then ((journal_Read.f k (a0.extract 0 ((mn (a0.size : Int) 3000) : Int).toNat)).bind fun bt220 => ((glossatorref3_ReadJournal.f (a0.extract 0 ((mn (a0.size : Int) 3000) : Int).toNat)).bind fun bt225 => ((journal_Recover.f k (a0.extract 0 ((mn (a0.size : Int) 3000) : Int).toNat)).bind fun bt230 => (if 0 ≤ bt225.2.1 then (if bt225.2.1 ≤ ((a0.extract 0 ((mn (a0.size : Int) 3000) : Int).toNat).size : Int) then (if bt230.1.toList = ((a0.extract 0 ((mn (a0.size : Int) 3000) : Int).toNat).extract 0 (bt225.2.1 : Int).toNat).toList then ((api_QRecord.f k bt230.2 bt225.1).bind fun t234 => (if t234 = true then (glossatorlaw3_JournalRead.j0 k (a0.extract 0 ((mn (a0.size : Int) 3000) : Int).toNat) bt220.1 bt220.2.1 bt225.1 bt225.2.1 bt225.2.2 (bt220.2.2 != bt225.2.2)) else (glossatorlaw3_JournalRead.j0 k (a0.extract 0 ((mn (a0.size : Int) 3000) : Int).toNat) bt220.1 bt220.2.1 bt225.1 bt225.2.1 bt225.2.2 true))) else (glossatorlaw3_JournalRead.j0 k (a0.extract 0 ((mn (a0.size : Int) 3000) : Int).toNat) bt220.1 bt220.2.1 bt225.1 bt225.2.1 bt225.2.2 true)) else (none)) else (none))))) else (none)) else (none))) else (some false)) = some r := H
  have A2 := Aside0.mk A20
  clear A20
  by_cases c3 : t211 = true
  · subst c3
    have H1 : (if (a0.size : Int) > 40000 then ((journal_Read.f k a0).bind fun bt212 => ((journal_Compact.f k a0).bind fun bt217 => ((glossatorlaw3_journalExample.f k).bind fun t219 => (if t219 = true then (if bt212.2.2 = 2 then (some (bt217.2 == 2)) else (some false)) else (some false))))) else (if 0 ≤ (mn (a0.size : Int) 3000) then (if (mn (a0.size : Int) 3000) ≤ (a0.size : Int) then ((journal_Read.f k (a0.extract 0 ((mn (a0.size : Int) 3000) : Int).toNat)).bind fun bt220 => ((glossatorref3_ReadJournal.f (a0.extract 0 ((mn (a0.size : Int) 3000) : Int).toNat)).bind fun bt225 => ((journal_Recover.f k (a0.extract 0 ((mn (a0.size : Int) 3000) : Int).toNat)).bind fun bt230 => (if 0 ≤ bt225.2.1 then (if bt225.2.1 ≤ ((a0.extract 0 ((mn (a0.size : Int) 3000) : Int).toNat).size : Int) then (if bt230.1.toList = ((a0.extract 0 ((mn (a0.size : Int) 3000) : Int).toNat).extract 0 (bt225.2.1 : Int).toNat).toList then ((api_QRecord.f k bt230.2 bt225.1).bind fun t234 => (if t234 = true then (glossatorlaw3_JournalRead.j0 k (a0.extract 0 ((mn (a0.size : Int) 3000) : Int).toNat) bt220.1 bt220.2.1 bt225.1 bt225.2.1 bt225.2.2 (bt220.2.2 != bt225.2.2)) else (glossatorlaw3_JournalRead.j0 k (a0.extract 0 ((mn (a0.size : Int) 3000) : Int).toNat) bt220.1 bt220.2.1 bt225.1 bt225.2.1 bt225.2.2 true))) else (glossatorlaw3_JournalRead.j0 k (a0.extract 0 ((mn (a0.size : Int) 3000) : Int).toNat) bt220.1 bt220.2.1 bt225.1 bt225.2.1 bt225.2.2 true)) else (none)) else (none))))) else (none)) else (none))) = some r := by rw [if_pos rfl] at H; exact H
    clear H
    have H := H1
    clear H1
    by_cases c4 : (a0.size : Int) > 40000
    · rw [if_pos c4] at H
      have c4b0 : decide (40000 < (a0.size : Int)) = true := decide_eq_true c4
      have c4b1 : decide (40000 < a0.size) = true := decide_eq_true (by omega)
      clear c4
      replace H := Option.bind_eq_some_iff.mp H
      obtain ⟨⟨t212, t213, t214⟩, A50, H⟩ := H
      replace H : ((journal_Compact.f k a0).bind fun bt217 => ((glossatorlaw3_journalExample.f k).bind fun t219 => (if t219 = true then (if t214 = 2 then (some (bt217.2 == 2)) else (some false)) else (some false)))) = some r := H
      have A5 := Aside0.mk A50
      clear A50
      replace H := Option.bind_eq_some_iff.mp H
      obtain ⟨⟨t217, t218⟩, A60, H⟩ := H
      replace H : ((glossatorlaw3_journalExample.f k).bind fun t219 => (if t219 = true then (if t214 = 2 then (some (t218 == 2)) else (some false)) else (some false))) = some r := H
      have A6 := Aside0.mk A60
      clear A60
      replace H := Option.bind_eq_some_iff.mp H
      obtain ⟨t219, A70, H⟩ := H
      replace H : (if t219 = true then (if t214 = 2 then (some (t218 == 2)) else (some false)) else (some false)) = some r := H
      have A7 := Aside0.mk A70
      clear A70
      by_cases c8 : t219 = true
      · subst c8
        have H1 : (if t214 = 2 then (some (t218 == 2)) else (some false)) = some r := by rw [if_pos rfl] at H; exact H
        clear H
        have H := H1
        clear H1
        by_cases c9 : t214 = 2
        · rw [if_pos c9] at H
          have c9b0 : (t214 == 2) = true := beq_iff_eq.mpr c9
          have c9b1 : (t214 != 2) = false := bne_eq_false_iff_eq.mpr c9
          clear c9
          obtain rfl := Option.some.inj H
          go_enter Try.func4, Try.ntmps4
          go_wp2_with (first | ((with_reducible refine gate_callee (f := 7) rfl ?_); refine goesL_ (some 21) rfl rfl Try.func7 (by kernel_rfl) rfl #[] rfl (by (try simp only [List.map_toArray, List.map_cons, List.map_nil]); first | done | rfl | (simp only [List.length_drop, List.length_take]; rfl)) ?_; (with_reducible refine (glossatorlaw3_journalExample.calls k  true _ A2.out).mono ?_); rintro e w10 ⟨rfl, hb⟩; refine ⟨_, rfl, ?_⟩; have n0_ := Aside0.mk (below_step (by repeat (first | (with_reducible first | exact HB.out | apply below_alloc | apply pw_below_drewN | apply below_drew1) | exact HB.out)) hb); clear HB; have HB := n0_; clear n0_; (try clear hb); (try clear hb2); (try clear hk); (try clear hi)) | ((with_reducible refine gate_callee (f := 11) rfl ?_); refine goesL_ (some 28) rfl rfl Try.func11 (by kernel_rfl) rfl #[.string a0] rfl (by (try simp only [List.map_toArray, List.map_cons, List.map_nil]); first | done | rfl | (simp only [List.length_drop, List.length_take]; rfl)) ?_; (with_reducible refine (journal_Read.calls k a0 t212 t213 t214 _ A5.out).mono ?_); rintro e w11 ⟨v215, rfl, ho0, hb⟩; refine ⟨_, rfl, ?_⟩; have n0_ := Aside0.mk (Kd.R_lower ho0 (below_size (by repeat (first | (with_reducible first | exact HB.out | apply below_alloc | apply pw_below_drewN | apply below_drew1) | exact HB.out)))); have n1_ := Aside0.mk (below_step (by repeat (first | (with_reducible first | exact HB.out | apply below_alloc | apply pw_below_drewN | apply below_drew1) | exact HB.out)) hb); clear HB; have HO216 := n0_; have HB := n1_; clear n0_ n1_; (try clear hb); (try clear hb2); (try clear hk); (try clear hi); (try clear ho0)) | ((with_reducible refine gate_callee (f := 12) rfl ?_); refine goesL_ (some 34) rfl rfl Try.func12 (by kernel_rfl) rfl #[.string a0] rfl (by (try simp only [List.map_toArray, List.map_cons, List.map_nil]); first | done | rfl | (simp only [List.length_drop, List.length_take]; rfl)) ?_; (with_reducible refine (journal_Compact.calls k a0 t217 t218 _ A6.out).mono ?_); rintro e w12 ⟨rfl, hb⟩; refine ⟨_, rfl, ?_⟩; have n0_ := Aside0.mk (Kd.R_below (by (with_reducible repeat (first | apply Kd.R_alloc | apply Kd.R_drewN | apply Kd.R_drew)); exact HO216.out) hb); have n1_ := Aside0.mk (below_step (by repeat (first | (with_reducible first | exact HB.out | apply below_alloc | apply pw_below_drewN | apply below_drew1) | exact HB.out)) hb); clear HO216; clear HB; have HO216 := n0_; have HB := n1_; clear n0_ n1_; (try clear hb); (try clear hb2); (try clear hk); (try clear hi)) | ((with_reducible refine gate_callee (f := 7) rfl ?_); refine goesL_ (some 37) rfl rfl Try.func7 (by kernel_rfl) rfl #[] rfl (by (try simp only [List.map_toArray, List.map_cons, List.map_nil]); first | done | rfl | (simp only [List.length_drop, List.length_take]; rfl)) ?_; (with_reducible refine (glossatorlaw3_journalExample.calls k  true _ A7.out).mono ?_); rintro e w13 ⟨rfl, hb⟩; refine ⟨_, rfl, ?_⟩; have n0_ := Aside0.mk (Kd.R_below (by (with_reducible repeat (first | apply Kd.R_alloc | apply Kd.R_drewN | apply Kd.R_drew)); exact HO216.out) hb); have n1_ := Aside0.mk (below_step (by repeat (first | (with_reducible first | exact HB.out | apply below_alloc | apply pw_below_drewN | apply below_drew1) | exact HB.out)) hb); clear HO216; clear HB; have HO216 := n0_; have HB := n1_; clear n0_ n1_; (try clear hb); (try clear hb2); (try clear hk); (try clear hi)))
          go_ret
          exact ⟨by first | rfl | (simp [errW_none, errW_some] <;> rfl) | (simp [*, errW_none, errW_some] <;> rfl), by repeat (first | (with_reducible first | exact HB.out | apply below_alloc | apply pw_below_drewN | apply below_drew1) | exact HB.out)⟩
        · rw [if_neg c9] at H
          have c9b0 : (t214 == 2) = false := beq_eq_false_iff_ne.mpr c9
          have c9b1 : (t214 != 2) = true := bne_iff_ne.mpr c9
          obtain rfl := Option.some.inj H
          go_enter Try.func4, Try.ntmps4
          go_wp2_with (first | ((with_reducible refine gate_callee (f := 7) rfl ?_); refine goesL_ (some 21) rfl rfl Try.func7 (by kernel_rfl) rfl #[] rfl (by (try simp only [List.map_toArray, List.map_cons, List.map_nil]); first | done | rfl | (simp only [List.length_drop, List.length_take]; rfl)) ?_; (with_reducible refine (glossatorlaw3_journalExample.calls k  true _ A2.out).mono ?_); rintro e w14 ⟨rfl, hb⟩; refine ⟨_, rfl, ?_⟩; have n0_ := Aside0.mk (below_step (by repeat (first | (with_reducible first | exact HB.out | apply below_alloc | apply pw_below_drewN | apply below_drew1) | exact HB.out)) hb); clear HB; have HB := n0_; clear n0_; (try clear hb); (try clear hb2); (try clear hk); (try clear hi)) | ((with_reducible refine gate_callee (f := 11) rfl ?_); refine goesL_ (some 28) rfl rfl Try.func11 (by kernel_rfl) rfl #[.string a0] rfl (by (try simp only [List.map_toArray, List.map_cons, List.map_nil]); first | done | rfl | (simp only [List.length_drop, List.length_take]; rfl)) ?_; (with_reducible refine (journal_Read.calls k a0 t212 t213 t214 _ A5.out).mono ?_); rintro e w15 ⟨v215, rfl, ho0, hb⟩; refine ⟨_, rfl, ?_⟩; have n0_ := Aside0.mk (Kd.R_lower ho0 (below_size (by repeat (first | (with_reducible first | exact HB.out | apply below_alloc | apply pw_below_drewN | apply below_drew1) | exact HB.out)))); have n1_ := Aside0.mk (below_step (by repeat (first | (with_reducible first | exact HB.out | apply below_alloc | apply pw_below_drewN | apply below_drew1) | exact HB.out)) hb); clear HB; have HO216 := n0_; have HB := n1_; clear n0_ n1_; (try clear hb); (try clear hb2); (try clear hk); (try clear hi); (try clear ho0)) | ((with_reducible refine gate_callee (f := 12) rfl ?_); refine goesL_ (some 34) rfl rfl Try.func12 (by kernel_rfl) rfl #[.string a0] rfl (by (try simp only [List.map_toArray, List.map_cons, List.map_nil]); first | done | rfl | (simp only [List.length_drop, List.length_take]; rfl)) ?_; (with_reducible refine (journal_Compact.calls k a0 t217 t218 _ A6.out).mono ?_); rintro e w16 ⟨rfl, hb⟩; refine ⟨_, rfl, ?_⟩; have n0_ := Aside0.mk (Kd.R_below (by (with_reducible repeat (first | apply Kd.R_alloc | apply Kd.R_drewN | apply Kd.R_drew)); exact HO216.out) hb); have n1_ := Aside0.mk (below_step (by repeat (first | (with_reducible first | exact HB.out | apply below_alloc | apply pw_below_drewN | apply below_drew1) | exact HB.out)) hb); clear HO216; clear HB; have HO216 := n0_; have HB := n1_; clear n0_ n1_; (try clear hb); (try clear hb2); (try clear hk); (try clear hi)) | ((with_reducible refine gate_callee (f := 7) rfl ?_); refine goesL_ (some 37) rfl rfl Try.func7 (by kernel_rfl) rfl #[] rfl (by (try simp only [List.map_toArray, List.map_cons, List.map_nil]); first | done | rfl | (simp only [List.length_drop, List.length_take]; rfl)) ?_; (with_reducible refine (glossatorlaw3_journalExample.calls k  true _ A7.out).mono ?_); rintro e w17 ⟨rfl, hb⟩; refine ⟨_, rfl, ?_⟩; have n0_ := Aside0.mk (Kd.R_below (by (with_reducible repeat (first | apply Kd.R_alloc | apply Kd.R_drewN | apply Kd.R_drew)); exact HO216.out) hb); have n1_ := Aside0.mk (below_step (by repeat (first | (with_reducible first | exact HB.out | apply below_alloc | apply pw_below_drewN | apply below_drew1) | exact HB.out)) hb); clear HO216; clear HB; have HO216 := n0_; have HB := n1_; clear n0_ n1_; (try clear hb); (try clear hb2); (try clear hk); (try clear hi)))
          go_ret
          exact ⟨by first | rfl | (simp [errW_none, errW_some] <;> rfl) | (simp [*, errW_none, errW_some] <;> rfl), by repeat (first | (with_reducible first | exact HB.out | apply below_alloc | apply pw_below_drewN | apply below_drew1) | exact HB.out)⟩
      · replace c8 := Bool.eq_false_iff.mpr c8
        subst c8
        have H1 : (some false) = some r := by rw [if_neg (show ¬ (false = true) by decide)] at H; exact H
        clear H
        have H := H1
        clear H1
        obtain rfl := Option.some.inj H
        go_enter Try.func4, Try.ntmps4
        go_wp2_with (first | ((with_reducible refine gate_callee (f := 7) rfl ?_); refine goesL_ (some 21) rfl rfl Try.func7 (by kernel_rfl) rfl #[] rfl (by (try simp only [List.map_toArray, List.map_cons, List.map_nil]); first | done | rfl | (simp only [List.length_drop, List.length_take]; rfl)) ?_; (with_reducible refine (glossatorlaw3_journalExample.calls k  true _ A2.out).mono ?_); rintro e w18 ⟨rfl, hb⟩; refine ⟨_, rfl, ?_⟩; have n0_ := Aside0.mk (below_step (by repeat (first | (with_reducible first | exact HB.out | apply below_alloc | apply pw_below_drewN | apply below_drew1) | exact HB.out)) hb); clear HB; have HB := n0_; clear n0_; (try clear hb); (try clear hb2); (try clear hk); (try clear hi)) | ((with_reducible refine gate_callee (f := 11) rfl ?_); refine goesL_ (some 28) rfl rfl Try.func11 (by kernel_rfl) rfl #[.string a0] rfl (by (try simp only [List.map_toArray, List.map_cons, List.map_nil]); first | done | rfl | (simp only [List.length_drop, List.length_take]; rfl)) ?_; (with_reducible refine (journal_Read.calls k a0 t212 t213 t214 _ A5.out).mono ?_); rintro e w19 ⟨v215, rfl, ho0, hb⟩; refine ⟨_, rfl, ?_⟩; have n0_ := Aside0.mk (Kd.R_lower ho0 (below_size (by repeat (first | (with_reducible first | exact HB.out | apply below_alloc | apply pw_below_drewN | apply below_drew1) | exact HB.out)))); have n1_ := Aside0.mk (below_step (by repeat (first | (with_reducible first | exact HB.out | apply below_alloc | apply pw_below_drewN | apply below_drew1) | exact HB.out)) hb); clear HB; have HO216 := n0_; have HB := n1_; clear n0_ n1_; (try clear hb); (try clear hb2); (try clear hk); (try clear hi); (try clear ho0)) | ((with_reducible refine gate_callee (f := 12) rfl ?_); refine goesL_ (some 34) rfl rfl Try.func12 (by kernel_rfl) rfl #[.string a0] rfl (by (try simp only [List.map_toArray, List.map_cons, List.map_nil]); first | done | rfl | (simp only [List.length_drop, List.length_take]; rfl)) ?_; (with_reducible refine (journal_Compact.calls k a0 t217 t218 _ A6.out).mono ?_); rintro e w20 ⟨rfl, hb⟩; refine ⟨_, rfl, ?_⟩; have n0_ := Aside0.mk (Kd.R_below (by (with_reducible repeat (first | apply Kd.R_alloc | apply Kd.R_drewN | apply Kd.R_drew)); exact HO216.out) hb); have n1_ := Aside0.mk (below_step (by repeat (first | (with_reducible first | exact HB.out | apply below_alloc | apply pw_below_drewN | apply below_drew1) | exact HB.out)) hb); clear HO216; clear HB; have HO216 := n0_; have HB := n1_; clear n0_ n1_; (try clear hb); (try clear hb2); (try clear hk); (try clear hi)) | ((with_reducible refine gate_callee (f := 7) rfl ?_); refine goesL_ (some 37) rfl rfl Try.func7 (by kernel_rfl) rfl #[] rfl (by (try simp only [List.map_toArray, List.map_cons, List.map_nil]); first | done | rfl | (simp only [List.length_drop, List.length_take]; rfl)) ?_; (with_reducible refine (glossatorlaw3_journalExample.calls k  false _ A7.out).mono ?_); rintro e w21 ⟨rfl, hb⟩; refine ⟨_, rfl, ?_⟩; have n0_ := Aside0.mk (Kd.R_below (by (with_reducible repeat (first | apply Kd.R_alloc | apply Kd.R_drewN | apply Kd.R_drew)); exact HO216.out) hb); have n1_ := Aside0.mk (below_step (by repeat (first | (with_reducible first | exact HB.out | apply below_alloc | apply pw_below_drewN | apply below_drew1) | exact HB.out)) hb); clear HO216; clear HB; have HO216 := n0_; have HB := n1_; clear n0_ n1_; (try clear hb); (try clear hb2); (try clear hk); (try clear hi)))
        go_ret
        exact ⟨by first | rfl | (simp [errW_none, errW_some] <;> rfl) | (simp [*, errW_none, errW_some] <;> rfl), by repeat (first | (with_reducible first | exact HB.out | apply below_alloc | apply pw_below_drewN | apply below_drew1) | exact HB.out)⟩
    · rw [if_neg c4] at H
      have c4b0 : decide (40000 < (a0.size : Int)) = false := decide_eq_false c4
      have c4b1 : decide (40000 < a0.size) = false := decide_eq_false (by omega)
      clear c4
      obtain ⟨ji22, hji22⟩ : ∃ j_ : Int, (mn (a0.size : Int) 3000) = j_ := ⟨_, rfl⟩
      replace H : (if 0 ≤ (ji22) then (if (ji22) ≤ (a0.size : Int) then ((journal_Read.f k (a0.extract 0 ((ji22) : Int).toNat)).bind fun bt220 => ((glossatorref3_ReadJournal.f (a0.extract 0 ((ji22) : Int).toNat)).bind fun bt225 => ((journal_Recover.f k (a0.extract 0 ((ji22) : Int).toNat)).bind fun bt230 => (if 0 ≤ bt225.2.1 then (if bt225.2.1 ≤ ((a0.extract 0 ((ji22) : Int).toNat).size : Int) then (if bt230.1.toList = ((a0.extract 0 ((ji22) : Int).toNat).extract 0 (bt225.2.1 : Int).toNat).toList then ((api_QRecord.f k bt230.2 bt225.1).bind fun t234 => (if t234 = true then (glossatorlaw3_JournalRead.j0 k (a0.extract 0 ((ji22) : Int).toNat) bt220.1 bt220.2.1 bt225.1 bt225.2.1 bt225.2.2 (bt220.2.2 != bt225.2.2)) else (glossatorlaw3_JournalRead.j0 k (a0.extract 0 ((ji22) : Int).toNat) bt220.1 bt220.2.1 bt225.1 bt225.2.1 bt225.2.2 true))) else (glossatorlaw3_JournalRead.j0 k (a0.extract 0 ((ji22) : Int).toNat) bt220.1 bt220.2.1 bt225.1 bt225.2.1 bt225.2.2 true)) else (none)) else (none))))) else (none)) else (none)) = some r := by first | (rw [hji22] at H; exact H) | (simp only [hji22] at H ⊢; exact H)
      (try rw [hji22] at A2)
      (try (have hji22h : ji22 ≤ 3000 := by (rw [← hji22]; unfold mn; (repeat' split) <;> omega)))
      (try (have hji22g : ji22 ≤ 64 := by omega))
      (try (have hji22l : 0 ≤ ji22 := by (rw [← hji22]; unfold mn; (repeat' split) <;> omega)))
      (try (have hji22m : 0 ≤ ji22 := by omega))
      have hji22_ : (if 3000 < (a0.size : Int) then 3000 else (a0.size : Int)) = ji22 := hji22
      by_cases c23 : 0 ≤ (ji22)
      · rw [if_pos c23] at H
        have c23b0 := eq_true c23
        have c23b1 : decide (0 ≤ (ji22)) = true := decide_eq_true c23
        clear c23
        by_cases c24 : (ji22) ≤ (a0.size : Int)
        · rw [if_pos c24] at H
          have c24b0 := eq_true c24
          have c24b1 : decide ((ji22) ≤ (a0.size : Int)) = true := decide_eq_true c24
          clear c24
          replace H := Option.bind_eq_some_iff.mp H
          obtain ⟨⟨t220, t221, t222⟩, A250, H⟩ := H
          replace H : ((glossatorref3_ReadJournal.f (a0.extract 0 ((ji22) : Int).toNat)).bind fun bt225 => ((journal_Recover.f k (a0.extract 0 ((ji22) : Int).toNat)).bind fun bt230 => (if 0 ≤ bt225.2.1 then (if bt225.2.1 ≤ ((a0.extract 0 ((ji22) : Int).toNat).size : Int) then (if bt230.1.toList = ((a0.extract 0 ((ji22) : Int).toNat).extract 0 (bt225.2.1 : Int).toNat).toList then ((api_QRecord.f k bt230.2 bt225.1).bind fun t234 => (if t234 = true then (glossatorlaw3_JournalRead.j0 k (a0.extract 0 ((ji22) : Int).toNat) t220 t221 bt225.1 bt225.2.1 bt225.2.2 (t222 != bt225.2.2)) else (glossatorlaw3_JournalRead.j0 k (a0.extract 0 ((ji22) : Int).toNat) t220 t221 bt225.1 bt225.2.1 bt225.2.2 true))) else (glossatorlaw3_JournalRead.j0 k (a0.extract 0 ((ji22) : Int).toNat) t220 t221 bt225.1 bt225.2.1 bt225.2.2 true)) else (none)) else (none)))) = some r := H
          have A25 := Aside0.mk A250
          clear A250
          replace H := Option.bind_eq_some_iff.mp H
          obtain ⟨⟨t225, t226, t227⟩, A260, H⟩ := H
          replace H : ((journal_Recover.f k (a0.extract 0 ((ji22) : Int).toNat)).bind fun bt230 => (if 0 ≤ t226 then (if t226 ≤ ((a0.extract 0 ((ji22) : Int).toNat).size : Int) then (if bt230.1.toList = ((a0.extract 0 ((ji22) : Int).toNat).extract 0 (t226 : Int).toNat).toList then ((api_QRecord.f k bt230.2 t225).bind fun t234 => (if t234 = true then (glossatorlaw3_JournalRead.j0 k (a0.extract 0 ((ji22) : Int).toNat) t220 t221 t225 t226 t227 (t222 != t227)) else (glossatorlaw3_JournalRead.j0 k (a0.extract 0 ((ji22) : Int).toNat) t220 t221 t225 t226 t227 true))) else (glossatorlaw3_JournalRead.j0 k (a0.extract 0 ((ji22) : Int).toNat) t220 t221 t225 t226 t227 true)) else (none)) else (none))) = some r := H
          have A26 := Aside0.mk A260
          clear A260
          replace H := Option.bind_eq_some_iff.mp H
          obtain ⟨⟨t230, t231⟩, A270, H⟩ := H
          replace H : (if 0 ≤ t226 then (if t226 ≤ ((a0.extract 0 ((ji22) : Int).toNat).size : Int) then (if t230.toList = ((a0.extract 0 ((ji22) : Int).toNat).extract 0 (t226 : Int).toNat).toList then ((api_QRecord.f k t231 t225).bind fun t234 => (if t234 = true then (glossatorlaw3_JournalRead.j0 k (a0.extract 0 ((ji22) : Int).toNat) t220 t221 t225 t226 t227 (t222 != t227)) else (glossatorlaw3_JournalRead.j0 k (a0.extract 0 ((ji22) : Int).toNat) t220 t221 t225 t226 t227 true))) else (glossatorlaw3_JournalRead.j0 k (a0.extract 0 ((ji22) : Int).toNat) t220 t221 t225 t226 t227 true)) else (none)) else (none)) = some r := H
          have A27 := Aside0.mk A270
          clear A270
          have HC28 := Aside0.mk H
          clear H
          go_enter Try.func4, Try.ntmps4
          go_upto_region 11 with (first | ((with_reducible refine gate_callee (f := 7) rfl ?_); refine goesL_ (some 21) rfl rfl Try.func7 (by kernel_rfl) rfl #[] rfl (by (try simp only [List.map_toArray, List.map_cons, List.map_nil]); first | done | rfl | (simp only [List.length_drop, List.length_take]; rfl)) ?_; (with_reducible refine (glossatorlaw3_journalExample.calls k  true _ A2.out).mono ?_); rintro e w29 ⟨rfl, hb⟩; refine ⟨_, rfl, ?_⟩; have n0_ := Aside0.mk (below_step (by repeat (first | (with_reducible first | exact HB.out | apply below_alloc | apply pw_below_drewN | apply below_drew1) | exact HB.out)) hb); clear HB; have HB := n0_; clear n0_; (try clear hb); (try clear hb2); (try clear hk); (try clear hi)) | ((with_reducible refine gate_callee (f := 11) rfl ?_); refine goesL_ (some 53) rfl rfl Try.func11 (by kernel_rfl) rfl #[.string (a0.extract 0 ((ji22) : Int).toNat)] rfl (by (try simp only [List.map_toArray, List.map_cons, List.map_nil]); first | done | (simp only [hji22]; rfl) | rfl | (simp only [List.length_drop, List.length_take]; rfl)) ?_; (with_reducible refine (journal_Read.calls k (a0.extract 0 ((ji22) : Int).toNat) t220 t221 t222 _ A25.out).mono ?_); rintro e w30 ⟨v223, rfl, ho0, hb⟩; refine ⟨_, rfl, ?_⟩; have n0_ := Aside0.mk (Kd.R_lower ho0 (below_size (by repeat (first | (with_reducible first | exact HB.out | apply below_alloc | apply pw_below_drewN | apply below_drew1) | exact HB.out)))); have n1_ := Aside0.mk (below_step (by repeat (first | (with_reducible first | exact HB.out | apply below_alloc | apply pw_below_drewN | apply below_drew1) | exact HB.out)) hb); clear HB; have HO224 := n0_; have HB := n1_; clear n0_ n1_; (try clear hb); (try clear hb2); (try clear hk); (try clear hi); (try clear ho0)) | ((with_reducible refine gate_callee (f := 13) rfl ?_); refine goesL_ (some 59) rfl rfl Try.func13 (by kernel_rfl) rfl #[.string (a0.extract 0 ((ji22) : Int).toNat)] rfl (by (try simp only [List.map_toArray, List.map_cons, List.map_nil]); first | done | (simp only [hji22]; rfl) | rfl | (simp only [List.length_drop, List.length_take]; rfl)) ?_; (with_reducible refine (glossatorref3_ReadJournal.calls (a0.extract 0 ((ji22) : Int).toNat) t225 t226 t227 _ A26.out).mono ?_); rintro e w31 ⟨v228, rfl, ho0, hb⟩; refine ⟨_, rfl, ?_⟩; have n0_ := Aside0.mk (Kd.R_elder' (by (with_reducible repeat (first | apply Kd.R_alloc | apply Kd.R_drewN | apply Kd.R_drew)); exact HO224.out) (Kd.R_base ho0) hb); have n1_ := Aside0.mk (Kd.R_lower (Kd.R_new' ho0 (Kd.R_lt (by (with_reducible repeat (first | apply Kd.R_alloc | apply Kd.R_drewN | apply Kd.R_drew)); exact HO224.out))) (below_size (by repeat (first | (with_reducible first | exact HB.out | apply below_alloc | apply pw_below_drewN | apply below_drew1) | exact HB.out)))); have n2_ := Aside0.mk (below_step (by repeat (first | (with_reducible first | exact HB.out | apply below_alloc | apply pw_below_drewN | apply below_drew1) | exact HB.out)) hb); clear HO224; clear HB; have HO224 := n0_; have HO229 := n1_; have HB := n2_; clear n0_ n1_ n2_; (try clear hb); (try clear hb2); (try clear hk); (try clear hi); (try clear ho0)) | ((with_reducible refine gate_callee (f := 14) rfl ?_); refine goesL_ (some 65) rfl rfl Try.func14 (by kernel_rfl) rfl #[.string (a0.extract 0 ((ji22) : Int).toNat)] rfl (by (try simp only [List.map_toArray, List.map_cons, List.map_nil]); first | done | (simp only [hji22]; rfl) | rfl | (simp only [List.length_drop, List.length_take]; rfl)) ?_; (with_reducible refine (journal_Recover.calls k (a0.extract 0 ((ji22) : Int).toNat) t230 t231 _ A27.out).mono ?_); rintro e w32 ⟨v232, rfl, ho0, hb⟩; refine ⟨_, rfl, ?_⟩; have n0_ := Aside0.mk (Kd.R_elder' (by (with_reducible repeat (first | apply Kd.R_alloc | apply Kd.R_drewN | apply Kd.R_drew)); exact HO224.out) (Kd.R_base ho0) hb); have n1_ := Aside0.mk (Kd.R_elder' (by (with_reducible repeat (first | apply Kd.R_alloc | apply Kd.R_drewN | apply Kd.R_drew)); exact HO229.out) (Kd.R_base ho0) hb); have n2_ := Aside0.mk (Kd.R_lower (Kd.R_new' (Kd.R_new' ho0 (Kd.R_lt (by (with_reducible repeat (first | apply Kd.R_alloc | apply Kd.R_drewN | apply Kd.R_drew)); exact HO224.out))) (Kd.R_lt (by (with_reducible repeat (first | apply Kd.R_alloc | apply Kd.R_drewN | apply Kd.R_drew)); exact HO229.out))) (below_size (by repeat (first | (with_reducible first | exact HB.out | apply below_alloc | apply pw_below_drewN | apply below_drew1) | exact HB.out)))); have n3_ := Aside0.mk (below_step (by repeat (first | (with_reducible first | exact HB.out | apply below_alloc | apply pw_below_drewN | apply below_drew1) | exact HB.out)) hb); clear HO224; clear HO229; clear HB; have HO224 := n0_; have HO229 := n1_; have HO233 := n2_; have HB := n3_; clear n0_ n1_ n2_ n3_; (try clear hb); (try clear hb2); (try clear hk); (try clear hi); (try clear ho0)))
          (try simp only [Act.put, List.setIfInBounds_toArray, List.set_cons_zero, List.set_cons_succ])
          go_cut [83] (fun v83 wc => ∃ (kq : Nat) (x83_27 : Bool), v83 = .bool x83_27 ∧ Aside0 (glossatorlaw3_JournalRead.j0 kq (a0.extract 0 ((ji22) : Int).toNat) t220 t221 t225 t226 t227 x83_27 = some r) ∧ Aside0 (kq ≤ k) ∧ Aside0 (Kd.R k26 26 wc w.heap.size (fun k_ => some k_ ≠ (v228 : Value).ownBlock) v223 t220) ∧ Aside0 (Kd.R k26 26 wc w.heap.size (fun k_ => some k_ ≠ (v223 : Value).ownBlock) v228 t225) ∧ Aside0 (Below w.heap.size w wc))
          case first =>
            have H := HC28.out
            clear HC28
            by_cases c33 : 0 ≤ t226
            · rw [if_pos c33] at H
              have c33b0 := eq_true c33
              have c33b1 : decide (0 ≤ t226) = true := decide_eq_true c33
              clear c33
              by_cases c34 : t226 ≤ ((a0.extract 0 ((ji22) : Int).toNat).size : Int)
              · rw [if_pos c34] at H
                have c34y : (t226 ≤ max ji22 0) = True := eq_true (by have h_ := c34; simp only [ByteArray.size_extract] at h_; omega)
                have c34b0 := eq_true c34
                have c34b1 : decide (t226 ≤ ((a0.extract 0 ((ji22) : Int).toNat).size : Int)) = true := decide_eq_true c34
                have c34b1x := c34b1
                try simp only [ByteArray.size_extract, Nat.min_self] at c34b1x
                clear c34
                by_cases c35 : t230.toList = ((a0.extract 0 ((ji22) : Int).toNat).extract 0 (t226 : Int).toNat).toList
                · rw [if_pos c35] at H
                  have c35b0 : (t230.toList == ((a0.extract 0 ((ji22) : Int).toNat).extract 0 (t226 : Int).toNat).toList) = true := beq_iff_eq.mpr c35
                  have c35b1 : (t230.toList != ((a0.extract 0 ((ji22) : Int).toNat).extract 0 (t226 : Int).toNat).toList) = false := bne_eq_false_iff_eq.mpr c35
                  clear c35
                  (first | rw [c35b0] | (simp only [i64_w, i32_w]; rw [c35b0]) | skip)
                  replace H := Option.bind_eq_some_iff.mp H
                  obtain ⟨t234, A360, H⟩ := H
                  replace H : (if t234 = true then (glossatorlaw3_JournalRead.j0 k (a0.extract 0 ((ji22) : Int).toNat) t220 t221 t225 t226 t227 (t222 != t227)) else (glossatorlaw3_JournalRead.j0 k (a0.extract 0 ((ji22) : Int).toNat) t220 t221 t225 t226 t227 true)) = some r := H
                  have A36 := Aside0.mk A360
                  clear A360
                  by_cases c37 : t234 = true
                  · subst c37
                    have H1 : (glossatorlaw3_JournalRead.j0 k (a0.extract 0 ((ji22) : Int).toNat) t220 t221 t225 t226 t227 (t222 != t227)) = some r := by rw [if_pos rfl] at H; exact H
                    clear H
                    have H := H1
                    clear H1
                    have H' := Aside0.mk H
                    clear H
                    obtain ⟨Ao38, co38, eo38⟩ := Kd.R_slice HO233.out
                    subst eo38
                    obtain ⟨Ao39, co39, eo39⟩ := Kd.R_slice HO229.out
                    subst eo39
                    go_wp2_with (first | (go_at_call 8; (with_reducible refine (api_QRecord.calls k _ _ t231 _ _ t225 true _ ?side1 ?side2 ?side3 ?side4 A36.out).mono ?_); (case side1 => repeat (first | exact (Kd.R_reads' HO233.out).2.2 | (with_reducible refine Kd.C_alloc ?_ _) | (with_reducible refine Kd.C_drewN ?_ _) | (with_reducible refine Kd.C_drew ?_))); (case side2 => exact (Kd.R_reads' HO233.out).2.1); (case side3 => repeat (first | exact (Kd.R_reads' HO229.out).2.2 | (with_reducible refine Kd.C_alloc ?_ _) | (with_reducible refine Kd.C_drewN ?_ _) | (with_reducible refine Kd.C_drew ?_))); (case side4 => exact (Kd.R_reads' HO229.out).2.1); rintro e w40 ⟨rfl, hb⟩; have n0_ := Aside0.mk (Kd.R_below (by (with_reducible repeat (first | apply Kd.R_alloc | apply Kd.R_drewN | apply Kd.R_drew)); exact HO224.out) hb); have n1_ := Aside0.mk (Kd.R_below (by (with_reducible repeat (first | apply Kd.R_alloc | apply Kd.R_drewN | apply Kd.R_drew)); exact HO229.out) hb); have n2_ := Aside0.mk (Kd.R_below (by (with_reducible repeat (first | apply Kd.R_alloc | apply Kd.R_drewN | apply Kd.R_drew)); exact HO233.out) hb); have n3_ := Aside0.mk (below_step (by repeat (first | (with_reducible first | exact HB.out | apply below_alloc | apply pw_below_drewN | apply below_drew1) | exact HB.out)) hb); clear HO224; clear HO229; clear HO233; clear HB; have HO224 := n0_; have HO229 := n1_; have HO233 := n2_; have HB := n3_; clear n0_ n1_ n2_ n3_; (try clear hb); (try clear hb2); (try clear hk); (try clear hi)))
                    go_meet
                    case rel => exact ⟨_, ((t222 != t227)), (by first | rfl | (simp; done) | (simp [*]; done) | (simp [isEmpty_bne]; done)), H', ⟨by first | omega | exact Nat.le_refl _⟩, ⟨by (with_reducible repeat (first | apply Kd.R_alloc | apply Kd.R_drewN | apply Kd.R_drew)); exact Kd.R_mono HO224.out (fun _ hk => hk.1.2)⟩, ⟨by (with_reducible repeat (first | apply Kd.R_alloc | apply Kd.R_drewN | apply Kd.R_drew)); exact Kd.R_mono HO229.out (fun _ hk => hk.1.2)⟩, ⟨by repeat (first | (with_reducible first | exact HB.out | apply below_alloc | apply pw_below_drewN | apply below_drew1) | exact HB.out)⟩⟩
                  · replace c37 := Bool.eq_false_iff.mpr c37
                    subst c37
                    have H1 : (glossatorlaw3_JournalRead.j0 k (a0.extract 0 ((ji22) : Int).toNat) t220 t221 t225 t226 t227 true) = some r := by rw [if_neg (show ¬ (false = true) by decide)] at H; exact H
                    clear H
                    have H := H1
                    clear H1
                    have H' := Aside0.mk H
                    clear H
                    obtain ⟨Ao41, co41, eo41⟩ := Kd.R_slice HO233.out
                    subst eo41
                    obtain ⟨Ao42, co42, eo42⟩ := Kd.R_slice HO229.out
                    subst eo42
                    go_wp2_with (first | (go_at_call 8; (with_reducible refine (api_QRecord.calls k _ _ t231 _ _ t225 false _ ?side1 ?side2 ?side3 ?side4 A36.out).mono ?_); (case side1 => repeat (first | exact (Kd.R_reads' HO233.out).2.2 | (with_reducible refine Kd.C_alloc ?_ _) | (with_reducible refine Kd.C_drewN ?_ _) | (with_reducible refine Kd.C_drew ?_))); (case side2 => exact (Kd.R_reads' HO233.out).2.1); (case side3 => repeat (first | exact (Kd.R_reads' HO229.out).2.2 | (with_reducible refine Kd.C_alloc ?_ _) | (with_reducible refine Kd.C_drewN ?_ _) | (with_reducible refine Kd.C_drew ?_))); (case side4 => exact (Kd.R_reads' HO229.out).2.1); rintro e w43 ⟨rfl, hb⟩; have n0_ := Aside0.mk (Kd.R_below (by (with_reducible repeat (first | apply Kd.R_alloc | apply Kd.R_drewN | apply Kd.R_drew)); exact HO224.out) hb); have n1_ := Aside0.mk (Kd.R_below (by (with_reducible repeat (first | apply Kd.R_alloc | apply Kd.R_drewN | apply Kd.R_drew)); exact HO229.out) hb); have n2_ := Aside0.mk (Kd.R_below (by (with_reducible repeat (first | apply Kd.R_alloc | apply Kd.R_drewN | apply Kd.R_drew)); exact HO233.out) hb); have n3_ := Aside0.mk (below_step (by repeat (first | (with_reducible first | exact HB.out | apply below_alloc | apply pw_below_drewN | apply below_drew1) | exact HB.out)) hb); clear HO224; clear HO229; clear HO233; clear HB; have HO224 := n0_; have HO229 := n1_; have HO233 := n2_; have HB := n3_; clear n0_ n1_ n2_ n3_; (try clear hb); (try clear hb2); (try clear hk); (try clear hi)))
                    go_meet
                    case rel => exact ⟨_, (true), (by first | rfl | (simp; done) | (simp [*]; done) | (simp [isEmpty_bne]; done)), H', ⟨by first | omega | exact Nat.le_refl _⟩, ⟨by (with_reducible repeat (first | apply Kd.R_alloc | apply Kd.R_drewN | apply Kd.R_drew)); exact Kd.R_mono HO224.out (fun _ hk => hk.1.2)⟩, ⟨by (with_reducible repeat (first | apply Kd.R_alloc | apply Kd.R_drewN | apply Kd.R_drew)); exact Kd.R_mono HO229.out (fun _ hk => hk.1.2)⟩, ⟨by repeat (first | (with_reducible first | exact HB.out | apply below_alloc | apply pw_below_drewN | apply below_drew1) | exact HB.out)⟩⟩
                · rw [if_neg c35] at H
                  have c35b0 : (t230.toList == ((a0.extract 0 ((ji22) : Int).toNat).extract 0 (t226 : Int).toNat).toList) = false := beq_eq_false_iff_ne.mpr c35
                  have c35b1 : (t230.toList != ((a0.extract 0 ((ji22) : Int).toNat).extract 0 (t226 : Int).toNat).toList) = true := bne_iff_ne.mpr c35
                  (first | rw [c35b0] | (simp only [i64_w, i32_w]; rw [c35b0]) | skip)
                  have H' := Aside0.mk H
                  clear H
                  go_wp2
                  go_meet
                  case rel => exact ⟨_, (true), (by first | rfl | (simp; done) | (simp [*]; done) | (simp [isEmpty_bne]; done)), H', ⟨by first | omega | exact Nat.le_refl _⟩, ⟨by (with_reducible repeat (first | apply Kd.R_alloc | apply Kd.R_drewN | apply Kd.R_drew)); exact Kd.R_mono HO224.out (fun _ hk => hk.1.2)⟩, ⟨by (with_reducible repeat (first | apply Kd.R_alloc | apply Kd.R_drewN | apply Kd.R_drew)); exact Kd.R_mono HO229.out (fun _ hk => hk.1.2)⟩, ⟨by repeat (first | (with_reducible first | exact HB.out | apply below_alloc | apply pw_below_drewN | apply below_drew1) | exact HB.out)⟩⟩
              · rw [if_neg c34] at H
                exact absurd H (by simp)
            · rw [if_neg c33] at H
              exact absurd H (by simp)
          case rest =>
            clear HC28
            try clear c1
            try clear c2
            try clear p2
            try clear c3
            try clear c4
            try clear c4b0
            try clear c4b1
            try clear c7
            try clear c8
            try clear c9
            try clear c9b0
            try clear c9b1
            try clear c11
            try clear c12
            try clear c13
            try clear c14
            try clear c23
            try clear c23b0
            try clear c23b1
            try clear c24
            try clear c24b0
            try clear c24b1
            try clear c33
            try clear c33b0
            try clear c33b1
            try clear c34
            try clear c34b0
            try clear c34b1
            try clear c35
            try clear c35b0
            try clear c35b1
            try clear c37
            obtain ⟨kq, x83_27, rfl, HA, HJ27, HO_8, HO_11, HB⟩ := hcut
            cases kq with
            | zero => exact absurd HA.out (by simp [glossatorlaw3_JournalRead.j0])
            | succ kj27 =>
              have H := HA.out
              clear HA
              simp only [glossatorlaw3_JournalRead.j0] at H
              by_cases c44 : x83_27 = true
              · subst c44
                have H1 : (some false) = some r := by rw [if_pos rfl] at H; exact H
                clear H
                have H := H1
                clear H1
                obtain rfl := Option.some.inj H
                go_wp2
                go_ret
                exact ⟨by first | rfl | (simp [errW_none, errW_some] <;> rfl) | (simp only [← hji22]; first | rfl | (simp [errW_none, errW_some] <;> rfl)) | (simp [*, errW_none, errW_some] <;> rfl), by repeat (first | (with_reducible first | exact HB.out | apply below_alloc | apply pw_below_drewN | apply below_drew1) | exact HB.out)⟩
              · replace c44 := Bool.eq_false_iff.mpr c44
                subst c44
                have H1 : ((journal_Compact.f kj27 (a0.extract 0 ((ji22) : Int).toNat)).bind fun bt235 => (if t227 = 0 then ((glossatorref3_State.f kj27 t225).bind fun t238 => (glossatorlaw3_JournalRead.l0 kj27 t220 t221 t225 t226 bt235.1 bt235.2 (⟨#[]⟩ : ByteArray) t238 (t238.length : Int) 0)) else ((glossatorlaw3_journalExample.f kj27).bind fun t237 => (if t237 = true then (if (t220.length : Int) = 0 then (if t221 = 0 then (if bt235.2 = t227 then (some (bt235.1.toList == ([] : List UInt8))) else (some false)) else (some false)) else (some false)) else (some false))))) = some r := by rw [if_neg (show ¬ (false = true) by decide)] at H; exact H
                clear H
                have H := H1
                clear H1
                replace H := Option.bind_eq_some_iff.mp H
                obtain ⟨⟨t235, t236⟩, A450, H⟩ := H
                replace H : (if t227 = 0 then ((glossatorref3_State.f kj27 t225).bind fun t238 => (glossatorlaw3_JournalRead.l0 kj27 t220 t221 t225 t226 t235 t236 (⟨#[]⟩ : ByteArray) t238 (t238.length : Int) 0)) else ((glossatorlaw3_journalExample.f kj27).bind fun t237 => (if t237 = true then (if (t220.length : Int) = 0 then (if t221 = 0 then (if t236 = t227 then (some (t235.toList == ([] : List UInt8))) else (some false)) else (some false)) else (some false)) else (some false)))) = some r := H
                have A45 := Aside0.mk A450
                clear A450
                by_cases c46 : t227 = 0
                · rw [if_pos c46] at H
                  have c46b0 : (t227 == 0) = true := beq_iff_eq.mpr c46
                  have c46b1 : (t227 != 0) = false := bne_eq_false_iff_eq.mpr c46
                  clear c46
                  replace H := Option.bind_eq_some_iff.mp H
                  obtain ⟨t238, A470, H⟩ := H
                  replace H : (glossatorlaw3_JournalRead.l0 kj27 t220 t221 t225 t226 t235 t236 (⟨#[]⟩ : ByteArray) t238 (t238.length : Int) 0) = some r := H
                  have A47 := Aside0.mk A470
                  clear A470
                  have H' := Aside0.mk H
                  clear H
                  go_wp2_with (first | ((with_reducible refine gate_callee (f := 12) rfl ?_); refine goesL_ (some 86) rfl rfl Try.func12 (by kernel_rfl) rfl #[.string (a0.extract 0 ((ji22) : Int).toNat)] rfl (by (try simp only [List.map_toArray, List.map_cons, List.map_nil]); first | done | (simp only [hji22]; rfl) | rfl | (simp only [List.length_drop, List.length_take]; rfl)) ?_; (with_reducible refine (journal_Compact.calls kj27 (a0.extract 0 ((ji22) : Int).toNat) t235 t236 _ A45.out).mono ?_); rintro e w48 ⟨rfl, hb⟩; refine ⟨_, rfl, ?_⟩; have n0_ := Aside0.mk (Kd.R_below (by (with_reducible repeat (first | apply Kd.R_alloc | apply Kd.R_drewN | apply Kd.R_drew)); exact HO_8.out) hb); have n1_ := Aside0.mk (Kd.R_below (by (with_reducible repeat (first | apply Kd.R_alloc | apply Kd.R_drewN | apply Kd.R_drew)); exact HO_11.out) hb); have n2_ := Aside0.mk (below_step (by repeat (first | (with_reducible first | exact HB.out | apply below_alloc | apply pw_below_drewN | apply below_drew1) | exact HB.out)) hb); clear HO_8; clear HO_11; clear HB; have HO_8 := n0_; have HO_11 := n1_; have HB := n2_; clear n0_ n1_ n2_; (try clear hb); (try clear hb2); (try clear hk); (try clear hi); obtain ⟨Ao49, co49, eo49⟩ := Kd.R_slice HO_11.out; subst eo49) | ((with_reducible refine gate_callee (f := 10) rfl ?_); refine goesL_ (some 111) rfl rfl Try.func10 (by kernel_rfl) rfl #[.slice Ao49 t225.length co49] rfl (by (try simp only [List.map_toArray, List.map_cons, List.map_nil]); first | done | rfl | (simp only [List.length_drop, List.length_take]; rfl)) ?_; (with_reducible refine (glossatorref3_State.calls kj27 _ _ t225 t238 _ ?side1 ?side2 A47.out).mono ?_); (case side1 => repeat (first | exact (Kd.R_reads' HO_11.out).2.2 | (with_reducible refine Kd.C_alloc ?_ _) | (with_reducible refine Kd.C_drewN ?_ _) | (with_reducible refine Kd.C_drew ?_))); (case side2 => exact (Kd.R_reads' HO_11.out).2.1); rintro e w50 ⟨v239, rfl, ho0, hb⟩; refine ⟨_, rfl, ?_⟩; have n0_ := Aside0.mk (Kd.R_elder' (by (with_reducible repeat (first | apply Kd.R_alloc | apply Kd.R_drewN | apply Kd.R_drew)); exact HO_8.out) (Kd.R_base ho0) hb); have n1_ := Aside0.mk (Kd.R_elder' (by (with_reducible repeat (first | apply Kd.R_alloc | apply Kd.R_drewN | apply Kd.R_drew)); exact HO_11.out) (Kd.R_base ho0) hb); have n2_ := Aside0.mk (Kd.R_lower (Kd.R_new' (Kd.R_new' ho0 (Kd.R_lt (by (with_reducible repeat (first | apply Kd.R_alloc | apply Kd.R_drewN | apply Kd.R_drew)); exact HO_8.out))) (Kd.R_lt (by (with_reducible repeat (first | apply Kd.R_alloc | apply Kd.R_drewN | apply Kd.R_drew)); exact HO_11.out))) (below_size (by repeat (first | (with_reducible first | exact HB.out | apply below_alloc | apply pw_below_drewN | apply below_drew1) | exact HB.out)))); have n3_ := Aside0.mk (below_step (by repeat (first | (with_reducible first | exact HB.out | apply below_alloc | apply pw_below_drewN | apply below_drew1) | exact HB.out)) hb); clear HO_8; clear HO_11; clear HB; have HO_8 := n0_; have HO_11 := n1_; have HO240 := n2_; have HB := n3_; clear n0_ n1_ n2_ n3_; (try clear hb); (try clear hb2); (try clear hk); (try clear hi); (try clear ho0); obtain ⟨Ao51, co51, eo51⟩ := Kd.R_slice HO240.out; subst eo51))
                  go_loopg [18, 113] kj27 (fun kq v18 v113 w' => ∃ (x18_2 : ByteArray) (x113_2 : Int), v18 = .string x18_2 ∧ v113 = .int .i64 x113_2 ∧ Aside0 (glossatorlaw3_JournalRead.l0 kq t220 t221 t225 t226 t235 t236 x18_2 t238 (t238.length : Int) x113_2 = some r) ∧ Aside0 (kq ≤ kj27) ∧ Aside0 (Kd.R k26 26 w' w.heap.size (fun k_ => some k_ ≠ ((.slice Ao49 t225.length co49) : Value).ownBlock ∧ some k_ ≠ ((.slice Ao51 t238.length co51) : Value).ownBlock) v223 t220) ∧ Aside0 (Kd.R k26 26 w' w.heap.size (fun k_ => some k_ ≠ (v223 : Value).ownBlock ∧ some k_ ≠ ((.slice Ao51 t238.length co51) : Value).ownBlock) (.slice Ao49 t225.length co49) t225) ∧ Aside0 (Kd.R k26 26 w' w.heap.size (fun k_ => some k_ ≠ (v223 : Value).ownBlock ∧ some k_ ≠ ((.slice Ao49 t225.length co49) : Value).ownBlock) (.slice Ao51 t238.length co51) t238) ∧ Aside0 (Below w.heap.size w w'))
                  case atStart => exact ⟨((⟨#[]⟩ : ByteArray)), (0), (by first | rfl | (simp; done) | (simp [*]; done) | (simp [isEmpty_bne]; done)), (by first | rfl | (simp; done) | (simp [*]; done) | (simp [isEmpty_bne]; done)), H', ⟨Nat.le_refl _⟩, ⟨by (with_reducible repeat (first | apply Kd.R_alloc | apply Kd.R_drewN | apply Kd.R_drew)); exact HO_8.out⟩, ⟨by (with_reducible repeat (first | apply Kd.R_alloc | apply Kd.R_drewN | apply Kd.R_drew)); exact HO_11.out⟩, ⟨by (with_reducible repeat (first | apply Kd.R_alloc | apply Kd.R_drewN | apply Kd.R_drew)); exact Kd.R_mono HO240.out (fun _ hk => ⟨hk.1.2, hk.2⟩)⟩, ⟨by repeat (first | (with_reducible first | exact HB.out | apply below_alloc | apply pw_below_drewN | apply below_drew1) | exact HB.out)⟩⟩
                  case round =>
                    clear H'
                    try clear c1
                    try clear c2
                    try clear p2
                    try clear c3
                    try clear c4
                    try clear c4b0
                    try clear c4b1
                    try clear c7
                    try clear c8
                    try clear c9
                    try clear c9b0
                    try clear c9b1
                    try clear c10
                    try clear c11
                    try clear c12
                    try clear c13
                    try clear c14
                    try clear c23
                    try clear c23b0
                    try clear c23b1
                    try clear c24
                    try clear c24b0
                    try clear c24b1
                    try clear c33
                    try clear c33b0
                    try clear c33b1
                    try clear c34
                    try clear c34b0
                    try clear c34b1
                    try clear c35
                    try clear c35b0
                    try clear c35b1
                    try clear c37
                    try clear c44
                    try clear c46
                    try clear c46b0
                    try clear c46b1
                    try clear p2
                    obtain ⟨x18_2, x113_2, rfl, rfl, HA, HK2, HO_8, HO_11, HO_111, HB⟩ := hrel
                    cases gk with
                    | zero => exact absurd HA.out (by simp [glossatorlaw3_JournalRead.l0])
                    | succ k2 =>
                      have H := HA.out
                      clear HA
                      simp only [glossatorlaw3_JournalRead.l0] at H
                      by_cases c52 : x113_2 < (t238.length : Int)
                      · rw [if_pos c52] at H
                        have c52b0 : decide (x113_2 < (t238.length : Int)) = true := decide_eq_true c52
                        clear c52
                        by_cases c53 : 0 ≤ x113_2
                        · rw [if_pos c53] at H
                          have c53b0 : decide (0 ≤ x113_2) = true := decide_eq_true c53
                          clear c53
                          by_cases c54 : x113_2 < (t238.length : Int)
                          · rw [if_pos c54] at H
                            have c54b0 : decide (x113_2 < (t238.length : Int)) = true := decide_eq_true c54
                            clear c54
                            replace H := Option.bind_eq_some_iff.mp H
                            obtain ⟨t243, A550, H⟩ := H
                            replace H : (if x18_2.size + t243.size ≤ 9223372036854775807 then (glossatorlaw3_JournalRead.l0 k2 t220 t221 t225 t226 t235 t236 (x18_2 ++ t243) t238 (t238.length : Int) (wrap64 (x113_2 + 1))) else (none)) = some r := H
                            have A55 := Aside0.mk A550
                            clear A550
                            by_cases c56 : x18_2.size + t243.size ≤ 9223372036854775807
                            · rw [if_pos c56] at H
                              have c56b0 := eq_true c56
                              have c56b1 : decide (x18_2.size + t243.size ≤ 9223372036854775807) = true := decide_eq_true c56
                              try have c56b2 : (9223372036854775807 < x18_2.size + t243.size) = False := eq_false (Nat.not_lt.2 c56)
                              have H' := Aside0.mk H
                              clear H
                              have p241 : 0 ≤ (x113_2 : Int) := of_decide_eq_true (by first | (with_reducible assumption) | assumption)
                              have q241 : x113_2 < (t238.length : Int) := of_decide_eq_true (by first | (with_reducible assumption) | assumption)
                              obtain ⟨ad241, e241, hx241_0, hx241_1, hx241_2⟩ := at_T26 (Kd.R_reads' HO_111.out).2.2 x113_2 p241 q241
                              cases e241
                              replace p241 := eq_true p241
                              replace q241 := eq_true q241
                              go_wp2_with (first | ((with_reducible refine gate_dst (N := 20) rfl ?_); (try (refine gate_guard (by rfl) ?_; dsimp only)); refine box_event ?hg (N := 20) ?hd (cs := #[.string (⟨#[]⟩ : ByteArray), .string (⟨#[]⟩ : ByteArray), .bool false]) (t := 26) ?hr ?_; (case hd => rfl); (case hg => rfl); (case hr => first | (go_simp; done) | (go_simp; rfl)); intro gb242 hg w57 hbox hb; have n0_ := Aside0.mk (Kd.R_below (Kd.R_elderB (by (with_reducible repeat (first | apply Kd.R_alloc | apply Kd.R_drewN | apply Kd.R_drew)); exact HO_8.out) gb242 (Nat.le_of_eq hg.symm)) hb); have n1_ := Aside0.mk (Kd.R_below (Kd.R_elderB (by (with_reducible repeat (first | apply Kd.R_alloc | apply Kd.R_drewN | apply Kd.R_drew)); exact HO_11.out) gb242 (Nat.le_of_eq hg.symm)) hb); have n2_ := Aside0.mk (Kd.R_below (Kd.R_elderB (by (with_reducible repeat (first | apply Kd.R_alloc | apply Kd.R_drewN | apply Kd.R_drew)); exact HO_111.out) gb242 (Nat.le_of_eq hg.symm)) hb); have n3_ := Aside0.mk (below_step (by repeat (first | (with_reducible first | exact HB.out | apply below_alloc | apply pw_below_drewN | apply below_drew1) | exact HB.out)) hb); have n4_ := Aside0.mk (hbox); have n5_ := Aside0.mk ((by rw [hg]; exact (below_size (by repeat (first | (with_reducible first | exact HB.out | apply below_alloc | apply pw_below_drewN | apply below_drew1) | exact HB.out))) : w.heap.size ≤ gb242)); have n6_ := Aside0.mk ((by rw [hg]; exact (below_size (by repeat (first | (with_reducible first | exact HB.out | apply below_alloc | apply pw_below_drewN | apply below_drew1) | exact HB.out))) : w.heap.size ≤ gb242)); clear HO_8; clear HO_11; clear HO_111; clear HB; have HO_8 := n0_; have HO_11 := n1_; have HO_111 := n2_; have HB := n3_; have BK242 := n4_; have GW242 := n5_; have GE242 := n6_; clear n0_ n1_ n2_ n3_ n4_ n5_ n6_; clear hb hbox hg; have hcz58_0 : w57.cell? ⟨gb242, 0, none⟩ = some (.string (⟨#[]⟩ : ByteArray)) := (blk_cell BK242.out 0).trans rfl; have hcz58_1 : w57.cell? ⟨gb242, 1, none⟩ = some (.string (⟨#[]⟩ : ByteArray)) := (blk_cell BK242.out 1).trans rfl; have hcz58_2 : w57.cell? ⟨gb242, 2, none⟩ = some (.bool false) := (blk_cell BK242.out 2).trans rfl; have hfz58_0 := blk_frozen BK242.out 0; have hfz58_1 := blk_frozen BK242.out 1; have hfz58_2 := blk_frozen BK242.out 2) | ((with_reducible refine gate_callee (f := 15) rfl ?_); refine goesL_ (some 119) rfl rfl Try.func15 (by kernel_rfl) rfl #[.agg #[.string ((rd_T26 t238 x113_2).f0), .string ((rd_T26 t238 x113_2).f1), .bool ((rd_T26 t238 x113_2).f2)]] rfl (by (try simp only [List.map_toArray, List.map_cons, List.map_nil]); first | done | rfl | (simp only [List.length_drop, List.length_take]; rfl)) ?_; (with_reducible refine (glossatorref3_Frame.calls k2 ((rd_T26 t238 x113_2).f0) ((rd_T26 t238 x113_2).f1) ((rd_T26 t238 x113_2).f2) t243 _ A55.out).mono ?_); rintro e w59 ⟨rfl, hb⟩; refine ⟨_, rfl, ?_⟩; have n0_ := Aside0.mk (Kd.R_below (by (with_reducible repeat (first | apply Kd.R_alloc | apply Kd.R_drewN | apply Kd.R_drew)); exact (Kd.R_mono (Kd.R_far (p := ⟨gb242, 2, none⟩) (Kd.R_far (p := ⟨gb242, 1, none⟩) (Kd.R_far (p := ⟨gb242, 0, none⟩) (Kd.R_mono HO_8.out (fun k_ hk => (⟨hk, hk.2⟩ : _ ∧ k_ ≠ gb242))) (fun _ hk => hk.2) (.string ((rd_T26 t238 x113_2).f0))) (fun _ hk => hk.2) (.string ((rd_T26 t238 x113_2).f1))) (fun _ hk => hk.2) (.bool ((rd_T26 t238 x113_2).f2))) (fun _ h_ => h_.1))) hb); have n1_ := Aside0.mk (Kd.R_below (by (with_reducible repeat (first | apply Kd.R_alloc | apply Kd.R_drewN | apply Kd.R_drew)); exact (Kd.R_mono (Kd.R_far (p := ⟨gb242, 2, none⟩) (Kd.R_far (p := ⟨gb242, 1, none⟩) (Kd.R_far (p := ⟨gb242, 0, none⟩) (Kd.R_mono HO_11.out (fun k_ hk => (⟨hk, hk.2⟩ : _ ∧ k_ ≠ gb242))) (fun _ hk => hk.2) (.string ((rd_T26 t238 x113_2).f0))) (fun _ hk => hk.2) (.string ((rd_T26 t238 x113_2).f1))) (fun _ hk => hk.2) (.bool ((rd_T26 t238 x113_2).f2))) (fun _ h_ => h_.1))) hb); have n2_ := Aside0.mk (Kd.R_below (by (with_reducible repeat (first | apply Kd.R_alloc | apply Kd.R_drewN | apply Kd.R_drew)); exact (Kd.R_mono (Kd.R_far (p := ⟨gb242, 2, none⟩) (Kd.R_far (p := ⟨gb242, 1, none⟩) (Kd.R_far (p := ⟨gb242, 0, none⟩) (Kd.R_mono HO_111.out (fun k_ hk => (⟨hk, hk.2⟩ : _ ∧ k_ ≠ gb242))) (fun _ hk => hk.2) (.string ((rd_T26 t238 x113_2).f0))) (fun _ hk => hk.2) (.string ((rd_T26 t238 x113_2).f1))) (fun _ hk => hk.2) (.bool ((rd_T26 t238 x113_2).f2))) (fun _ h_ => h_.1))) hb); have n3_ := Aside0.mk (blk_below (g := gb242) (o := .cells #[.string ((rd_T26 t238 x113_2).f0), .string ((rd_T26 t238 x113_2).f1), .bool ((rd_T26 t238 x113_2).f2)] 26 (0, 0)) (by (with_reducible repeat (first | refine blk_drewN ?_ _ | refine blk_drew ?_ | refine blk_alloc ?_ _)); refine blk_put (cs := #[.string ((rd_T26 t238 x113_2).f0), .string ((rd_T26 t238 x113_2).f1), .bool false]) ?_ 2 _ rfl; (with_reducible repeat (first | refine blk_drewN ?_ _ | refine blk_drew ?_ | refine blk_alloc ?_ _)); refine blk_put (cs := #[.string ((rd_T26 t238 x113_2).f0), .string (⟨#[]⟩ : ByteArray), .bool false]) ?_ 1 _ rfl; (with_reducible repeat (first | refine blk_drewN ?_ _ | refine blk_drew ?_ | refine blk_alloc ?_ _)); refine blk_put (cs := #[.string (⟨#[]⟩ : ByteArray), .string (⟨#[]⟩ : ByteArray), .bool false]) ?_ 0 _ rfl; (with_reducible repeat (first | refine blk_drewN ?_ _ | refine blk_drew ?_ | refine blk_alloc ?_ _)); exact BK242.out) hb); have n4_ := Aside0.mk (below_step (by repeat (first | (with_reducible first | exact HB.out | apply below_alloc | apply pw_below_drewN | apply below_drew1 | refine below_set ?_ GE242.out) | exact HB.out)) hb); clear HO_8; clear HO_11; clear HO_111; clear BK242; clear HB; have HO_8 := n0_; have HO_11 := n1_; have HO_111 := n2_; have BK242 := n3_; have HB := n4_; clear n0_ n1_ n2_ n3_ n4_; (try clear hb); (try clear hb2); (try clear hk); (try clear hi)))
                              go_roundg k2
                              case measure => have := HJ27.out; have := HK2.out; omega
                              case rel => exact ⟨(x18_2 ++ t243), (wrap64 (x113_2 + 1)), (by first | rfl | (simp; done) | (simp [*]; done) | (simp [isEmpty_bne]; done)), (by first | rfl | (simp; done) | (simp [*]; done) | (simp [isEmpty_bne]; done)), H', ⟨by have := HJ27.out; have := HK2.out; omega⟩, ⟨by (with_reducible repeat (first | apply Kd.R_alloc | apply Kd.R_drewN | apply Kd.R_drew)); exact Kd.R_mono HO_8.out (fun _ hk => ⟨hk.1.1, hk.1.2⟩)⟩, ⟨by (with_reducible repeat (first | apply Kd.R_alloc | apply Kd.R_drewN | apply Kd.R_drew)); exact Kd.R_mono HO_11.out (fun _ hk => ⟨hk.1.1, hk.1.2⟩)⟩, ⟨by (with_reducible repeat (first | apply Kd.R_alloc | apply Kd.R_drewN | apply Kd.R_drew)); exact Kd.R_mono HO_111.out (fun _ hk => ⟨hk.1.1, hk.1.2⟩)⟩, ⟨by repeat (first | (with_reducible first | exact HB.out | apply below_alloc | apply pw_below_drewN | apply below_drew1 | refine below_set ?_ GE242.out) | exact HB.out)⟩⟩
                            · rw [if_neg c56] at H
                              exact absurd H (by simp)
                          · rw [if_neg c54] at H
                            exact absurd H (by simp)
                        · rw [if_neg c53] at H
                          exact absurd H (by simp)
                      · rw [if_neg c52] at H
                        have c52b0 : decide (x113_2 < (t238.length : Int)) = false := decide_eq_false c52
                        clear c52
                        replace H := Option.bind_eq_some_iff.mp H
                        obtain ⟨t244, A600, H⟩ := H
                        replace H : (if t244 = true then ((api_QRecord.f k2 t220 t225).bind fun t245 => (if t245 = true then (if t221 = t226 then (if t236 = 0 then (some (t235.toList == x18_2.toList)) else (some false)) else (some false)) else (some false))) else (some false)) = some r := H
                        have A60 := Aside0.mk A600
                        clear A600
                        by_cases c61 : t244 = true
                        · subst c61
                          have H1 : ((api_QRecord.f k2 t220 t225).bind fun t245 => (if t245 = true then (if t221 = t226 then (if t236 = 0 then (some (t235.toList == x18_2.toList)) else (some false)) else (some false)) else (some false))) = some r := by rw [if_pos rfl] at H; exact H
                          clear H
                          have H := H1
                          clear H1
                          replace H := Option.bind_eq_some_iff.mp H
                          obtain ⟨t245, A620, H⟩ := H
                          replace H : (if t245 = true then (if t221 = t226 then (if t236 = 0 then (some (t235.toList == x18_2.toList)) else (some false)) else (some false)) else (some false)) = some r := H
                          have A62 := Aside0.mk A620
                          clear A620
                          by_cases c63 : t245 = true
                          · subst c63
                            have H1 : (if t221 = t226 then (if t236 = 0 then (some (t235.toList == x18_2.toList)) else (some false)) else (some false)) = some r := by rw [if_pos rfl] at H; exact H
                            clear H
                            have H := H1
                            clear H1
                            by_cases c64 : t221 = t226
                            · rw [if_pos c64] at H
                              have c64b0 : (t221 == t226) = true := beq_iff_eq.mpr c64
                              have c64b1 : (t221 != t226) = false := bne_eq_false_iff_eq.mpr c64
                              clear c64
                              by_cases c65 : t236 = 0
                              · rw [if_pos c65] at H
                                have c65b0 : (t236 == 0) = true := beq_iff_eq.mpr c65
                                have c65b1 : (t236 != 0) = false := bne_eq_false_iff_eq.mpr c65
                                clear c65
                                obtain rfl := Option.some.inj H
                                go_wp2_with (first | ((with_reducible refine gate_callee (f := 7) rfl ?_); refine goesL_ (some 122) rfl rfl Try.func7 (by kernel_rfl) rfl #[] rfl (by (try simp only [List.map_toArray, List.map_cons, List.map_nil]); first | done | rfl | (simp only [List.length_drop, List.length_take]; rfl)) ?_; (with_reducible refine (glossatorlaw3_journalExample.calls k2  true _ A60.out).mono ?_); rintro e w66 ⟨rfl, hb⟩; refine ⟨_, rfl, ?_⟩; have n0_ := Aside0.mk (Kd.R_below (by (with_reducible repeat (first | apply Kd.R_alloc | apply Kd.R_drewN | apply Kd.R_drew)); exact HO_8.out) hb); have n1_ := Aside0.mk (Kd.R_below (by (with_reducible repeat (first | apply Kd.R_alloc | apply Kd.R_drewN | apply Kd.R_drew)); exact HO_11.out) hb); have n2_ := Aside0.mk (Kd.R_below (by (with_reducible repeat (first | apply Kd.R_alloc | apply Kd.R_drewN | apply Kd.R_drew)); exact HO_111.out) hb); have n3_ := Aside0.mk (below_step (by repeat (first | (with_reducible first | exact HB.out | apply below_alloc | apply pw_below_drewN | apply below_drew1) | exact HB.out)) hb); clear HO_8; clear HO_11; clear HO_111; clear HB; have HO_8 := n0_; have HO_11 := n1_; have HO_111 := n2_; have HB := n3_; clear n0_ n1_ n2_ n3_; (try clear hb); (try clear hb2); (try clear hk); (try clear hi); obtain ⟨Ao67, co67, eo67⟩ := Kd.R_slice HO_8.out; subst eo67) | (go_at_call 8; (with_reducible refine (api_QRecord.calls k2 _ _ t220 _ _ t225 true _ ?side1 ?side2 ?side3 ?side4 A62.out).mono ?_); (case side1 => repeat (first | exact (Kd.R_reads' HO_8.out).2.2 | (with_reducible refine Kd.C_alloc ?_ _) | (with_reducible refine Kd.C_drewN ?_ _) | (with_reducible refine Kd.C_drew ?_))); (case side2 => exact (Kd.R_reads' HO_8.out).2.1); (case side3 => repeat (first | exact (Kd.R_reads' HO_11.out).2.2 | (with_reducible refine Kd.C_alloc ?_ _) | (with_reducible refine Kd.C_drewN ?_ _) | (with_reducible refine Kd.C_drew ?_))); (case side4 => exact (Kd.R_reads' HO_11.out).2.1); rintro e w68 ⟨rfl, hb⟩; have n0_ := Aside0.mk (Kd.R_below (by (with_reducible repeat (first | apply Kd.R_alloc | apply Kd.R_drewN | apply Kd.R_drew)); exact HO_8.out) hb); have n1_ := Aside0.mk (Kd.R_below (by (with_reducible repeat (first | apply Kd.R_alloc | apply Kd.R_drewN | apply Kd.R_drew)); exact HO_11.out) hb); have n2_ := Aside0.mk (Kd.R_below (by (with_reducible repeat (first | apply Kd.R_alloc | apply Kd.R_drewN | apply Kd.R_drew)); exact HO_111.out) hb); have n3_ := Aside0.mk (below_step (by repeat (first | (with_reducible first | exact HB.out | apply below_alloc | apply pw_below_drewN | apply below_drew1) | exact HB.out)) hb); clear HO_8; clear HO_11; clear HO_111; clear HB; have HO_8 := n0_; have HO_11 := n1_; have HO_111 := n2_; have HB := n3_; clear n0_ n1_ n2_ n3_; (try clear hb); (try clear hb2); (try clear hk); (try clear hi)))
                                go_ret
                                exact ⟨by first | rfl | (simp [errW_none, errW_some] <;> rfl) | (simp only [← hji22]; first | rfl | (simp [errW_none, errW_some] <;> rfl)) | (simp [*, errW_none, errW_some] <;> rfl), by repeat (first | (with_reducible first | exact HB.out | apply below_alloc | apply pw_below_drewN | apply below_drew1) | exact HB.out)⟩
                              · rw [if_neg c65] at H
                                have c65b0 : (t236 == 0) = false := beq_eq_false_iff_ne.mpr c65
                                have c65b1 : (t236 != 0) = true := bne_iff_ne.mpr c65
                                obtain rfl := Option.some.inj H
                                go_wp2_with (first | ((with_reducible refine gate_callee (f := 7) rfl ?_); refine goesL_ (some 122) rfl rfl Try.func7 (by kernel_rfl) rfl #[] rfl (by (try simp only [List.map_toArray, List.map_cons, List.map_nil]); first | done | rfl | (simp only [List.length_drop, List.length_take]; rfl)) ?_; (with_reducible refine (glossatorlaw3_journalExample.calls k2  true _ A60.out).mono ?_); rintro e w69 ⟨rfl, hb⟩; refine ⟨_, rfl, ?_⟩; have n0_ := Aside0.mk (Kd.R_below (by (with_reducible repeat (first | apply Kd.R_alloc | apply Kd.R_drewN | apply Kd.R_drew)); exact HO_8.out) hb); have n1_ := Aside0.mk (Kd.R_below (by (with_reducible repeat (first | apply Kd.R_alloc | apply Kd.R_drewN | apply Kd.R_drew)); exact HO_11.out) hb); have n2_ := Aside0.mk (Kd.R_below (by (with_reducible repeat (first | apply Kd.R_alloc | apply Kd.R_drewN | apply Kd.R_drew)); exact HO_111.out) hb); have n3_ := Aside0.mk (below_step (by repeat (first | (with_reducible first | exact HB.out | apply below_alloc | apply pw_below_drewN | apply below_drew1) | exact HB.out)) hb); clear HO_8; clear HO_11; clear HO_111; clear HB; have HO_8 := n0_; have HO_11 := n1_; have HO_111 := n2_; have HB := n3_; clear n0_ n1_ n2_ n3_; (try clear hb); (try clear hb2); (try clear hk); (try clear hi); obtain ⟨Ao70, co70, eo70⟩ := Kd.R_slice HO_8.out; subst eo70) | (go_at_call 8; (with_reducible refine (api_QRecord.calls k2 _ _ t220 _ _ t225 true _ ?side1 ?side2 ?side3 ?side4 A62.out).mono ?_); (case side1 => repeat (first | exact (Kd.R_reads' HO_8.out).2.2 | (with_reducible refine Kd.C_alloc ?_ _) | (with_reducible refine Kd.C_drewN ?_ _) | (with_reducible refine Kd.C_drew ?_))); (case side2 => exact (Kd.R_reads' HO_8.out).2.1); (case side3 => repeat (first | exact (Kd.R_reads' HO_11.out).2.2 | (with_reducible refine Kd.C_alloc ?_ _) | (with_reducible refine Kd.C_drewN ?_ _) | (with_reducible refine Kd.C_drew ?_))); (case side4 => exact (Kd.R_reads' HO_11.out).2.1); rintro e w71 ⟨rfl, hb⟩; have n0_ := Aside0.mk (Kd.R_below (by (with_reducible repeat (first | apply Kd.R_alloc | apply Kd.R_drewN | apply Kd.R_drew)); exact HO_8.out) hb); have n1_ := Aside0.mk (Kd.R_below (by (with_reducible repeat (first | apply Kd.R_alloc | apply Kd.R_drewN | apply Kd.R_drew)); exact HO_11.out) hb); have n2_ := Aside0.mk (Kd.R_below (by (with_reducible repeat (first | apply Kd.R_alloc | apply Kd.R_drewN | apply Kd.R_drew)); exact HO_111.out) hb); have n3_ := Aside0.mk (below_step (by repeat (first | (with_reducible first | exact HB.out | apply below_alloc | apply pw_below_drewN | apply below_drew1) | exact HB.out)) hb); clear HO_8; clear HO_11; clear HO_111; clear HB; have HO_8 := n0_; have HO_11 := n1_; have HO_111 := n2_; have HB := n3_; clear n0_ n1_ n2_ n3_; (try clear hb); (try clear hb2); (try clear hk); (try clear hi)))
                                go_ret
                                exact ⟨by first | rfl | (simp [errW_none, errW_some] <;> rfl) | (simp only [← hji22]; first | rfl | (simp [errW_none, errW_some] <;> rfl)) | (simp [*, errW_none, errW_some] <;> rfl), by repeat (first | (with_reducible first | exact HB.out | apply below_alloc | apply pw_below_drewN | apply below_drew1) | exact HB.out)⟩
                            · rw [if_neg c64] at H
                              have c64b0 : (t221 == t226) = false := beq_eq_false_iff_ne.mpr c64
                              have c64b1 : (t221 != t226) = true := bne_iff_ne.mpr c64
                              obtain rfl := Option.some.inj H
                              go_wp2_with (first | ((with_reducible refine gate_callee (f := 7) rfl ?_); refine goesL_ (some 122) rfl rfl Try.func7 (by kernel_rfl) rfl #[] rfl (by (try simp only [List.map_toArray, List.map_cons, List.map_nil]); first | done | rfl | (simp only [List.length_drop, List.length_take]; rfl)) ?_; (with_reducible refine (glossatorlaw3_journalExample.calls k2  true _ A60.out).mono ?_); rintro e w72 ⟨rfl, hb⟩; refine ⟨_, rfl, ?_⟩; have n0_ := Aside0.mk (Kd.R_below (by (with_reducible repeat (first | apply Kd.R_alloc | apply Kd.R_drewN | apply Kd.R_drew)); exact HO_8.out) hb); have n1_ := Aside0.mk (Kd.R_below (by (with_reducible repeat (first | apply Kd.R_alloc | apply Kd.R_drewN | apply Kd.R_drew)); exact HO_11.out) hb); have n2_ := Aside0.mk (Kd.R_below (by (with_reducible repeat (first | apply Kd.R_alloc | apply Kd.R_drewN | apply Kd.R_drew)); exact HO_111.out) hb); have n3_ := Aside0.mk (below_step (by repeat (first | (with_reducible first | exact HB.out | apply below_alloc | apply pw_below_drewN | apply below_drew1) | exact HB.out)) hb); clear HO_8; clear HO_11; clear HO_111; clear HB; have HO_8 := n0_; have HO_11 := n1_; have HO_111 := n2_; have HB := n3_; clear n0_ n1_ n2_ n3_; (try clear hb); (try clear hb2); (try clear hk); (try clear hi); obtain ⟨Ao73, co73, eo73⟩ := Kd.R_slice HO_8.out; subst eo73) | (go_at_call 8; (with_reducible refine (api_QRecord.calls k2 _ _ t220 _ _ t225 true _ ?side1 ?side2 ?side3 ?side4 A62.out).mono ?_); (case side1 => repeat (first | exact (Kd.R_reads' HO_8.out).2.2 | (with_reducible refine Kd.C_alloc ?_ _) | (with_reducible refine Kd.C_drewN ?_ _) | (with_reducible refine Kd.C_drew ?_))); (case side2 => exact (Kd.R_reads' HO_8.out).2.1); (case side3 => repeat (first | exact (Kd.R_reads' HO_11.out).2.2 | (with_reducible refine Kd.C_alloc ?_ _) | (with_reducible refine Kd.C_drewN ?_ _) | (with_reducible refine Kd.C_drew ?_))); (case side4 => exact (Kd.R_reads' HO_11.out).2.1); rintro e w74 ⟨rfl, hb⟩; have n0_ := Aside0.mk (Kd.R_below (by (with_reducible repeat (first | apply Kd.R_alloc | apply Kd.R_drewN | apply Kd.R_drew)); exact HO_8.out) hb); have n1_ := Aside0.mk (Kd.R_below (by (with_reducible repeat (first | apply Kd.R_alloc | apply Kd.R_drewN | apply Kd.R_drew)); exact HO_11.out) hb); have n2_ := Aside0.mk (Kd.R_below (by (with_reducible repeat (first | apply Kd.R_alloc | apply Kd.R_drewN | apply Kd.R_drew)); exact HO_111.out) hb); have n3_ := Aside0.mk (below_step (by repeat (first | (with_reducible first | exact HB.out | apply below_alloc | apply pw_below_drewN | apply below_drew1) | exact HB.out)) hb); clear HO_8; clear HO_11; clear HO_111; clear HB; have HO_8 := n0_; have HO_11 := n1_; have HO_111 := n2_; have HB := n3_; clear n0_ n1_ n2_ n3_; (try clear hb); (try clear hb2); (try clear hk); (try clear hi)))
                              go_ret
                              exact ⟨by first | rfl | (simp [errW_none, errW_some] <;> rfl) | (simp only [← hji22]; first | rfl | (simp [errW_none, errW_some] <;> rfl)) | (simp [*, errW_none, errW_some] <;> rfl), by repeat (first | (with_reducible first | exact HB.out | apply below_alloc | apply pw_below_drewN | apply below_drew1) | exact HB.out)⟩
                          · replace c63 := Bool.eq_false_iff.mpr c63
                            subst c63
                            have H1 : (some false) = some r := by rw [if_neg (show ¬ (false = true) by decide)] at H; exact H
                            clear H
                            have H := H1
                            clear H1
                            obtain rfl := Option.some.inj H
                            go_wp2_with (first | ((with_reducible refine gate_callee (f := 7) rfl ?_); refine goesL_ (some 122) rfl rfl Try.func7 (by kernel_rfl) rfl #[] rfl (by (try simp only [List.map_toArray, List.map_cons, List.map_nil]); first | done | rfl | (simp only [List.length_drop, List.length_take]; rfl)) ?_; (with_reducible refine (glossatorlaw3_journalExample.calls k2  true _ A60.out).mono ?_); rintro e w75 ⟨rfl, hb⟩; refine ⟨_, rfl, ?_⟩; have n0_ := Aside0.mk (Kd.R_below (by (with_reducible repeat (first | apply Kd.R_alloc | apply Kd.R_drewN | apply Kd.R_drew)); exact HO_8.out) hb); have n1_ := Aside0.mk (Kd.R_below (by (with_reducible repeat (first | apply Kd.R_alloc | apply Kd.R_drewN | apply Kd.R_drew)); exact HO_11.out) hb); have n2_ := Aside0.mk (Kd.R_below (by (with_reducible repeat (first | apply Kd.R_alloc | apply Kd.R_drewN | apply Kd.R_drew)); exact HO_111.out) hb); have n3_ := Aside0.mk (below_step (by repeat (first | (with_reducible first | exact HB.out | apply below_alloc | apply pw_below_drewN | apply below_drew1) | exact HB.out)) hb); clear HO_8; clear HO_11; clear HO_111; clear HB; have HO_8 := n0_; have HO_11 := n1_; have HO_111 := n2_; have HB := n3_; clear n0_ n1_ n2_ n3_; (try clear hb); (try clear hb2); (try clear hk); (try clear hi); obtain ⟨Ao76, co76, eo76⟩ := Kd.R_slice HO_8.out; subst eo76) | (go_at_call 8; (with_reducible refine (api_QRecord.calls k2 _ _ t220 _ _ t225 false _ ?side1 ?side2 ?side3 ?side4 A62.out).mono ?_); (case side1 => repeat (first | exact (Kd.R_reads' HO_8.out).2.2 | (with_reducible refine Kd.C_alloc ?_ _) | (with_reducible refine Kd.C_drewN ?_ _) | (with_reducible refine Kd.C_drew ?_))); (case side2 => exact (Kd.R_reads' HO_8.out).2.1); (case side3 => repeat (first | exact (Kd.R_reads' HO_11.out).2.2 | (with_reducible refine Kd.C_alloc ?_ _) | (with_reducible refine Kd.C_drewN ?_ _) | (with_reducible refine Kd.C_drew ?_))); (case side4 => exact (Kd.R_reads' HO_11.out).2.1); rintro e w77 ⟨rfl, hb⟩; have n0_ := Aside0.mk (Kd.R_below (by (with_reducible repeat (first | apply Kd.R_alloc | apply Kd.R_drewN | apply Kd.R_drew)); exact HO_8.out) hb); have n1_ := Aside0.mk (Kd.R_below (by (with_reducible repeat (first | apply Kd.R_alloc | apply Kd.R_drewN | apply Kd.R_drew)); exact HO_11.out) hb); have n2_ := Aside0.mk (Kd.R_below (by (with_reducible repeat (first | apply Kd.R_alloc | apply Kd.R_drewN | apply Kd.R_drew)); exact HO_111.out) hb); have n3_ := Aside0.mk (below_step (by repeat (first | (with_reducible first | exact HB.out | apply below_alloc | apply pw_below_drewN | apply below_drew1) | exact HB.out)) hb); clear HO_8; clear HO_11; clear HO_111; clear HB; have HO_8 := n0_; have HO_11 := n1_; have HO_111 := n2_; have HB := n3_; clear n0_ n1_ n2_ n3_; (try clear hb); (try clear hb2); (try clear hk); (try clear hi)))
                            go_ret
                            exact ⟨by first | rfl | (simp [errW_none, errW_some] <;> rfl) | (simp only [← hji22]; first | rfl | (simp [errW_none, errW_some] <;> rfl)) | (simp [*, errW_none, errW_some] <;> rfl), by repeat (first | (with_reducible first | exact HB.out | apply below_alloc | apply pw_below_drewN | apply below_drew1) | exact HB.out)⟩
                        · replace c61 := Bool.eq_false_iff.mpr c61
                          subst c61
                          have H1 : (some false) = some r := by rw [if_neg (show ¬ (false = true) by decide)] at H; exact H
                          clear H
                          have H := H1
                          clear H1
                          obtain rfl := Option.some.inj H
                          go_wp2_with (first | ((with_reducible refine gate_callee (f := 7) rfl ?_); refine goesL_ (some 122) rfl rfl Try.func7 (by kernel_rfl) rfl #[] rfl (by (try simp only [List.map_toArray, List.map_cons, List.map_nil]); first | done | rfl | (simp only [List.length_drop, List.length_take]; rfl)) ?_; (with_reducible refine (glossatorlaw3_journalExample.calls k2  false _ A60.out).mono ?_); rintro e w78 ⟨rfl, hb⟩; refine ⟨_, rfl, ?_⟩; have n0_ := Aside0.mk (Kd.R_below (by (with_reducible repeat (first | apply Kd.R_alloc | apply Kd.R_drewN | apply Kd.R_drew)); exact HO_8.out) hb); have n1_ := Aside0.mk (Kd.R_below (by (with_reducible repeat (first | apply Kd.R_alloc | apply Kd.R_drewN | apply Kd.R_drew)); exact HO_11.out) hb); have n2_ := Aside0.mk (Kd.R_below (by (with_reducible repeat (first | apply Kd.R_alloc | apply Kd.R_drewN | apply Kd.R_drew)); exact HO_111.out) hb); have n3_ := Aside0.mk (below_step (by repeat (first | (with_reducible first | exact HB.out | apply below_alloc | apply pw_below_drewN | apply below_drew1) | exact HB.out)) hb); clear HO_8; clear HO_11; clear HO_111; clear HB; have HO_8 := n0_; have HO_11 := n1_; have HO_111 := n2_; have HB := n3_; clear n0_ n1_ n2_ n3_; (try clear hb); (try clear hb2); (try clear hk); (try clear hi)))
                          go_ret
                          exact ⟨by first | rfl | (simp [errW_none, errW_some] <;> rfl) | (simp only [← hji22]; first | rfl | (simp [errW_none, errW_some] <;> rfl)) | (simp [*, errW_none, errW_some] <;> rfl), by repeat (first | (with_reducible first | exact HB.out | apply below_alloc | apply pw_below_drewN | apply below_drew1) | exact HB.out)⟩
                · rw [if_neg c46] at H
                  have c46b0 : (t227 == 0) = false := beq_eq_false_iff_ne.mpr c46
                  have c46b1 : (t227 != 0) = true := bne_iff_ne.mpr c46
                  replace H := Option.bind_eq_some_iff.mp H
                  obtain ⟨t237, A790, H⟩ := H
                  replace H : (if t237 = true then (if (t220.length : Int) = 0 then (if t221 = 0 then (if t236 = t227 then (some (t235.toList == ([] : List UInt8))) else (some false)) else (some false)) else (some false)) else (some false)) = some r := H
                  have A79 := Aside0.mk A790
                  clear A790
                  by_cases c80 : t237 = true
                  · subst c80
                    have H1 : (if (t220.length : Int) = 0 then (if t221 = 0 then (if t236 = t227 then (some (t235.toList == ([] : List UInt8))) else (some false)) else (some false)) else (some false)) = some r := by rw [if_pos rfl] at H; exact H
                    clear H
                    have H := H1
                    clear H1
                    by_cases c81 : (t220.length : Int) = 0
                    · rw [if_pos c81] at H
                      have c81b0 : ((t220.length : Int) == 0) = true := beq_iff_eq.mpr c81
                      have c81b1 : ((t220.length : Int) != 0) = false := bne_eq_false_iff_eq.mpr c81
                      clear c81
                      by_cases c82 : t221 = 0
                      · rw [if_pos c82] at H
                        have c82b0 : (t221 == 0) = true := beq_iff_eq.mpr c82
                        have c82b1 : (t221 != 0) = false := bne_eq_false_iff_eq.mpr c82
                        clear c82
                        by_cases c83 : t236 = t227
                        · rw [if_pos c83] at H
                          have c83b0 : (t236 == t227) = true := beq_iff_eq.mpr c83
                          have c83b1 : (t236 != t227) = false := bne_eq_false_iff_eq.mpr c83
                          clear c83
                          obtain rfl := Option.some.inj H
                          go_wp2_with (first | ((with_reducible refine gate_callee (f := 12) rfl ?_); refine goesL_ (some 86) rfl rfl Try.func12 (by kernel_rfl) rfl #[.string (a0.extract 0 ((ji22) : Int).toNat)] rfl (by (try simp only [List.map_toArray, List.map_cons, List.map_nil]); first | done | (simp only [hji22]; rfl) | rfl | (simp only [List.length_drop, List.length_take]; rfl)) ?_; (with_reducible refine (journal_Compact.calls kj27 (a0.extract 0 ((ji22) : Int).toNat) t235 t236 _ A45.out).mono ?_); rintro e w84 ⟨rfl, hb⟩; refine ⟨_, rfl, ?_⟩; have n0_ := Aside0.mk (Kd.R_below (by (with_reducible repeat (first | apply Kd.R_alloc | apply Kd.R_drewN | apply Kd.R_drew)); exact HO_8.out) hb); have n1_ := Aside0.mk (Kd.R_below (by (with_reducible repeat (first | apply Kd.R_alloc | apply Kd.R_drewN | apply Kd.R_drew)); exact HO_11.out) hb); have n2_ := Aside0.mk (below_step (by repeat (first | (with_reducible first | exact HB.out | apply below_alloc | apply pw_below_drewN | apply below_drew1) | exact HB.out)) hb); clear HO_8; clear HO_11; clear HB; have HO_8 := n0_; have HO_11 := n1_; have HB := n2_; clear n0_ n1_ n2_; (try clear hb); (try clear hb2); (try clear hk); (try clear hi)) | ((with_reducible refine gate_callee (f := 7) rfl ?_); refine goesL_ (some 91) rfl rfl Try.func7 (by kernel_rfl) rfl #[] rfl (by (try simp only [List.map_toArray, List.map_cons, List.map_nil]); first | done | rfl | (simp only [List.length_drop, List.length_take]; rfl)) ?_; (with_reducible refine (glossatorlaw3_journalExample.calls kj27  true _ A79.out).mono ?_); rintro e w85 ⟨rfl, hb⟩; refine ⟨_, rfl, ?_⟩; have n0_ := Aside0.mk (Kd.R_below (by (with_reducible repeat (first | apply Kd.R_alloc | apply Kd.R_drewN | apply Kd.R_drew)); exact HO_8.out) hb); have n1_ := Aside0.mk (Kd.R_below (by (with_reducible repeat (first | apply Kd.R_alloc | apply Kd.R_drewN | apply Kd.R_drew)); exact HO_11.out) hb); have n2_ := Aside0.mk (below_step (by repeat (first | (with_reducible first | exact HB.out | apply below_alloc | apply pw_below_drewN | apply below_drew1) | exact HB.out)) hb); clear HO_8; clear HO_11; clear HB; have HO_8 := n0_; have HO_11 := n1_; have HB := n2_; clear n0_ n1_ n2_; (try clear hb); (try clear hb2); (try clear hk); (try clear hi); obtain ⟨Ao86, co86, eo86⟩ := Kd.R_slice HO_8.out; subst eo86))
                          go_ret
                          exact ⟨by first | rfl | (simp [errW_none, errW_some] <;> rfl) | (simp only [← hji22]; first | rfl | (simp [errW_none, errW_some] <;> rfl)) | (simp [*, errW_none, errW_some] <;> rfl), by repeat (first | (with_reducible first | exact HB.out | apply below_alloc | apply pw_below_drewN | apply below_drew1) | exact HB.out)⟩
                        · rw [if_neg c83] at H
                          have c83b0 : (t236 == t227) = false := beq_eq_false_iff_ne.mpr c83
                          have c83b1 : (t236 != t227) = true := bne_iff_ne.mpr c83
                          obtain rfl := Option.some.inj H
                          go_wp2_with (first | ((with_reducible refine gate_callee (f := 12) rfl ?_); refine goesL_ (some 86) rfl rfl Try.func12 (by kernel_rfl) rfl #[.string (a0.extract 0 ((ji22) : Int).toNat)] rfl (by (try simp only [List.map_toArray, List.map_cons, List.map_nil]); first | done | (simp only [hji22]; rfl) | rfl | (simp only [List.length_drop, List.length_take]; rfl)) ?_; (with_reducible refine (journal_Compact.calls kj27 (a0.extract 0 ((ji22) : Int).toNat) t235 t236 _ A45.out).mono ?_); rintro e w87 ⟨rfl, hb⟩; refine ⟨_, rfl, ?_⟩; have n0_ := Aside0.mk (Kd.R_below (by (with_reducible repeat (first | apply Kd.R_alloc | apply Kd.R_drewN | apply Kd.R_drew)); exact HO_8.out) hb); have n1_ := Aside0.mk (Kd.R_below (by (with_reducible repeat (first | apply Kd.R_alloc | apply Kd.R_drewN | apply Kd.R_drew)); exact HO_11.out) hb); have n2_ := Aside0.mk (below_step (by repeat (first | (with_reducible first | exact HB.out | apply below_alloc | apply pw_below_drewN | apply below_drew1) | exact HB.out)) hb); clear HO_8; clear HO_11; clear HB; have HO_8 := n0_; have HO_11 := n1_; have HB := n2_; clear n0_ n1_ n2_; (try clear hb); (try clear hb2); (try clear hk); (try clear hi)) | ((with_reducible refine gate_callee (f := 7) rfl ?_); refine goesL_ (some 91) rfl rfl Try.func7 (by kernel_rfl) rfl #[] rfl (by (try simp only [List.map_toArray, List.map_cons, List.map_nil]); first | done | rfl | (simp only [List.length_drop, List.length_take]; rfl)) ?_; (with_reducible refine (glossatorlaw3_journalExample.calls kj27  true _ A79.out).mono ?_); rintro e w88 ⟨rfl, hb⟩; refine ⟨_, rfl, ?_⟩; have n0_ := Aside0.mk (Kd.R_below (by (with_reducible repeat (first | apply Kd.R_alloc | apply Kd.R_drewN | apply Kd.R_drew)); exact HO_8.out) hb); have n1_ := Aside0.mk (Kd.R_below (by (with_reducible repeat (first | apply Kd.R_alloc | apply Kd.R_drewN | apply Kd.R_drew)); exact HO_11.out) hb); have n2_ := Aside0.mk (below_step (by repeat (first | (with_reducible first | exact HB.out | apply below_alloc | apply pw_below_drewN | apply below_drew1) | exact HB.out)) hb); clear HO_8; clear HO_11; clear HB; have HO_8 := n0_; have HO_11 := n1_; have HB := n2_; clear n0_ n1_ n2_; (try clear hb); (try clear hb2); (try clear hk); (try clear hi); obtain ⟨Ao89, co89, eo89⟩ := Kd.R_slice HO_8.out; subst eo89))
                          go_ret
                          exact ⟨by first | rfl | (simp [errW_none, errW_some] <;> rfl) | (simp only [← hji22]; first | rfl | (simp [errW_none, errW_some] <;> rfl)) | (simp [*, errW_none, errW_some] <;> rfl), by repeat (first | (with_reducible first | exact HB.out | apply below_alloc | apply pw_below_drewN | apply below_drew1) | exact HB.out)⟩
                      · rw [if_neg c82] at H
                        have c82b0 : (t221 == 0) = false := beq_eq_false_iff_ne.mpr c82
                        have c82b1 : (t221 != 0) = true := bne_iff_ne.mpr c82
                        obtain rfl := Option.some.inj H
                        go_wp2_with (first | ((with_reducible refine gate_callee (f := 12) rfl ?_); refine goesL_ (some 86) rfl rfl Try.func12 (by kernel_rfl) rfl #[.string (a0.extract 0 ((ji22) : Int).toNat)] rfl (by (try simp only [List.map_toArray, List.map_cons, List.map_nil]); first | done | (simp only [hji22]; rfl) | rfl | (simp only [List.length_drop, List.length_take]; rfl)) ?_; (with_reducible refine (journal_Compact.calls kj27 (a0.extract 0 ((ji22) : Int).toNat) t235 t236 _ A45.out).mono ?_); rintro e w90 ⟨rfl, hb⟩; refine ⟨_, rfl, ?_⟩; have n0_ := Aside0.mk (Kd.R_below (by (with_reducible repeat (first | apply Kd.R_alloc | apply Kd.R_drewN | apply Kd.R_drew)); exact HO_8.out) hb); have n1_ := Aside0.mk (Kd.R_below (by (with_reducible repeat (first | apply Kd.R_alloc | apply Kd.R_drewN | apply Kd.R_drew)); exact HO_11.out) hb); have n2_ := Aside0.mk (below_step (by repeat (first | (with_reducible first | exact HB.out | apply below_alloc | apply pw_below_drewN | apply below_drew1) | exact HB.out)) hb); clear HO_8; clear HO_11; clear HB; have HO_8 := n0_; have HO_11 := n1_; have HB := n2_; clear n0_ n1_ n2_; (try clear hb); (try clear hb2); (try clear hk); (try clear hi)) | ((with_reducible refine gate_callee (f := 7) rfl ?_); refine goesL_ (some 91) rfl rfl Try.func7 (by kernel_rfl) rfl #[] rfl (by (try simp only [List.map_toArray, List.map_cons, List.map_nil]); first | done | rfl | (simp only [List.length_drop, List.length_take]; rfl)) ?_; (with_reducible refine (glossatorlaw3_journalExample.calls kj27  true _ A79.out).mono ?_); rintro e w91 ⟨rfl, hb⟩; refine ⟨_, rfl, ?_⟩; have n0_ := Aside0.mk (Kd.R_below (by (with_reducible repeat (first | apply Kd.R_alloc | apply Kd.R_drewN | apply Kd.R_drew)); exact HO_8.out) hb); have n1_ := Aside0.mk (Kd.R_below (by (with_reducible repeat (first | apply Kd.R_alloc | apply Kd.R_drewN | apply Kd.R_drew)); exact HO_11.out) hb); have n2_ := Aside0.mk (below_step (by repeat (first | (with_reducible first | exact HB.out | apply below_alloc | apply pw_below_drewN | apply below_drew1) | exact HB.out)) hb); clear HO_8; clear HO_11; clear HB; have HO_8 := n0_; have HO_11 := n1_; have HB := n2_; clear n0_ n1_ n2_; (try clear hb); (try clear hb2); (try clear hk); (try clear hi); obtain ⟨Ao92, co92, eo92⟩ := Kd.R_slice HO_8.out; subst eo92))
                        go_ret
                        exact ⟨by first | rfl | (simp [errW_none, errW_some] <;> rfl) | (simp only [← hji22]; first | rfl | (simp [errW_none, errW_some] <;> rfl)) | (simp [*, errW_none, errW_some] <;> rfl), by repeat (first | (with_reducible first | exact HB.out | apply below_alloc | apply pw_below_drewN | apply below_drew1) | exact HB.out)⟩
                    · rw [if_neg c81] at H
                      have c81b0 : ((t220.length : Int) == 0) = false := beq_eq_false_iff_ne.mpr c81
                      have c81b1 : ((t220.length : Int) != 0) = true := bne_iff_ne.mpr c81
                      have c81b2 : ¬ (t220 = []) := fun h_ => c81 (by rw [h_]; rfl)
                      obtain rfl := Option.some.inj H
                      go_wp2_with (first | ((with_reducible refine gate_callee (f := 12) rfl ?_); refine goesL_ (some 86) rfl rfl Try.func12 (by kernel_rfl) rfl #[.string (a0.extract 0 ((ji22) : Int).toNat)] rfl (by (try simp only [List.map_toArray, List.map_cons, List.map_nil]); first | done | (simp only [hji22]; rfl) | rfl | (simp only [List.length_drop, List.length_take]; rfl)) ?_; (with_reducible refine (journal_Compact.calls kj27 (a0.extract 0 ((ji22) : Int).toNat) t235 t236 _ A45.out).mono ?_); rintro e w93 ⟨rfl, hb⟩; refine ⟨_, rfl, ?_⟩; have n0_ := Aside0.mk (Kd.R_below (by (with_reducible repeat (first | apply Kd.R_alloc | apply Kd.R_drewN | apply Kd.R_drew)); exact HO_8.out) hb); have n1_ := Aside0.mk (Kd.R_below (by (with_reducible repeat (first | apply Kd.R_alloc | apply Kd.R_drewN | apply Kd.R_drew)); exact HO_11.out) hb); have n2_ := Aside0.mk (below_step (by repeat (first | (with_reducible first | exact HB.out | apply below_alloc | apply pw_below_drewN | apply below_drew1) | exact HB.out)) hb); clear HO_8; clear HO_11; clear HB; have HO_8 := n0_; have HO_11 := n1_; have HB := n2_; clear n0_ n1_ n2_; (try clear hb); (try clear hb2); (try clear hk); (try clear hi)) | ((with_reducible refine gate_callee (f := 7) rfl ?_); refine goesL_ (some 91) rfl rfl Try.func7 (by kernel_rfl) rfl #[] rfl (by (try simp only [List.map_toArray, List.map_cons, List.map_nil]); first | done | rfl | (simp only [List.length_drop, List.length_take]; rfl)) ?_; (with_reducible refine (glossatorlaw3_journalExample.calls kj27  true _ A79.out).mono ?_); rintro e w94 ⟨rfl, hb⟩; refine ⟨_, rfl, ?_⟩; have n0_ := Aside0.mk (Kd.R_below (by (with_reducible repeat (first | apply Kd.R_alloc | apply Kd.R_drewN | apply Kd.R_drew)); exact HO_8.out) hb); have n1_ := Aside0.mk (Kd.R_below (by (with_reducible repeat (first | apply Kd.R_alloc | apply Kd.R_drewN | apply Kd.R_drew)); exact HO_11.out) hb); have n2_ := Aside0.mk (below_step (by repeat (first | (with_reducible first | exact HB.out | apply below_alloc | apply pw_below_drewN | apply below_drew1) | exact HB.out)) hb); clear HO_8; clear HO_11; clear HB; have HO_8 := n0_; have HO_11 := n1_; have HB := n2_; clear n0_ n1_ n2_; (try clear hb); (try clear hb2); (try clear hk); (try clear hi); obtain ⟨Ao95, co95, eo95⟩ := Kd.R_slice HO_8.out; subst eo95))
                      go_ret
                      exact ⟨by first | rfl | (simp [errW_none, errW_some] <;> rfl) | (simp only [← hji22]; first | rfl | (simp [errW_none, errW_some] <;> rfl)) | (simp [*, errW_none, errW_some] <;> rfl), by repeat (first | (with_reducible first | exact HB.out | apply below_alloc | apply pw_below_drewN | apply below_drew1) | exact HB.out)⟩
                  · replace c80 := Bool.eq_false_iff.mpr c80
                    subst c80
                    have H1 : (some false) = some r := by rw [if_neg (show ¬ (false = true) by decide)] at H; exact H
                    clear H
                    have H := H1
                    clear H1
                    obtain rfl := Option.some.inj H
                    go_wp2_with (first | ((with_reducible refine gate_callee (f := 12) rfl ?_); refine goesL_ (some 86) rfl rfl Try.func12 (by kernel_rfl) rfl #[.string (a0.extract 0 ((ji22) : Int).toNat)] rfl (by (try simp only [List.map_toArray, List.map_cons, List.map_nil]); first | done | (simp only [hji22]; rfl) | rfl | (simp only [List.length_drop, List.length_take]; rfl)) ?_; (with_reducible refine (journal_Compact.calls kj27 (a0.extract 0 ((ji22) : Int).toNat) t235 t236 _ A45.out).mono ?_); rintro e w96 ⟨rfl, hb⟩; refine ⟨_, rfl, ?_⟩; have n0_ := Aside0.mk (Kd.R_below (by (with_reducible repeat (first | apply Kd.R_alloc | apply Kd.R_drewN | apply Kd.R_drew)); exact HO_8.out) hb); have n1_ := Aside0.mk (Kd.R_below (by (with_reducible repeat (first | apply Kd.R_alloc | apply Kd.R_drewN | apply Kd.R_drew)); exact HO_11.out) hb); have n2_ := Aside0.mk (below_step (by repeat (first | (with_reducible first | exact HB.out | apply below_alloc | apply pw_below_drewN | apply below_drew1) | exact HB.out)) hb); clear HO_8; clear HO_11; clear HB; have HO_8 := n0_; have HO_11 := n1_; have HB := n2_; clear n0_ n1_ n2_; (try clear hb); (try clear hb2); (try clear hk); (try clear hi)) | ((with_reducible refine gate_callee (f := 7) rfl ?_); refine goesL_ (some 91) rfl rfl Try.func7 (by kernel_rfl) rfl #[] rfl (by (try simp only [List.map_toArray, List.map_cons, List.map_nil]); first | done | rfl | (simp only [List.length_drop, List.length_take]; rfl)) ?_; (with_reducible refine (glossatorlaw3_journalExample.calls kj27  false _ A79.out).mono ?_); rintro e w97 ⟨rfl, hb⟩; refine ⟨_, rfl, ?_⟩; have n0_ := Aside0.mk (Kd.R_below (by (with_reducible repeat (first | apply Kd.R_alloc | apply Kd.R_drewN | apply Kd.R_drew)); exact HO_8.out) hb); have n1_ := Aside0.mk (Kd.R_below (by (with_reducible repeat (first | apply Kd.R_alloc | apply Kd.R_drewN | apply Kd.R_drew)); exact HO_11.out) hb); have n2_ := Aside0.mk (below_step (by repeat (first | (with_reducible first | exact HB.out | apply below_alloc | apply pw_below_drewN | apply below_drew1) | exact HB.out)) hb); clear HO_8; clear HO_11; clear HB; have HO_8 := n0_; have HO_11 := n1_; have HB := n2_; clear n0_ n1_ n2_; (try clear hb); (try clear hb2); (try clear hk); (try clear hi)))
                    go_ret
                    exact ⟨by first | rfl | (simp [errW_none, errW_some] <;> rfl) | (simp only [← hji22]; first | rfl | (simp [errW_none, errW_some] <;> rfl)) | (simp [*, errW_none, errW_some] <;> rfl), by repeat (first | (with_reducible first | exact HB.out | apply below_alloc | apply pw_below_drewN | apply below_drew1) | exact HB.out)⟩
        · rw [if_neg c24] at H
          exact absurd H (by simp)
      · rw [if_neg c23] at H
        exact absurd H (by simp)
  · replace c3 := Bool.eq_false_iff.mpr c3
    subst c3
    have H1 : (some false) = some r := by rw [if_neg (show ¬ (false = true) by decide)] at H; exact H
    clear H
    have H := H1
    clear H1
    obtain rfl := Option.some.inj H
    go_enter Try.func4, Try.ntmps4
    go_wp2_with (first | ((with_reducible refine gate_callee (f := 7) rfl ?_); refine goesL_ (some 21) rfl rfl Try.func7 (by kernel_rfl) rfl #[] rfl (by (try simp only [List.map_toArray, List.map_cons, List.map_nil]); first | done | rfl | (simp only [List.length_drop, List.length_take]; rfl)) ?_; (with_reducible refine (glossatorlaw3_journalExample.calls k  false _ A2.out).mono ?_); rintro e w98 ⟨rfl, hb⟩; refine ⟨_, rfl, ?_⟩; have n0_ := Aside0.mk (below_step (by repeat (first | (with_reducible first | exact HB.out | apply below_alloc | apply pw_below_drewN | apply below_drew1) | exact HB.out)) hb); clear HB; have HB := n0_; clear n0_; (try clear hb); (try clear hb2); (try clear hk); (try clear hi)))
    go_ret
    exact ⟨by first | rfl | (simp [errW_none, errW_some] <;> rfl) | (simp [*, errW_none, errW_some] <;> rfl), by repeat (first | (with_reducible first | exact HB.out | apply below_alloc | apply pw_below_drewN | apply below_drew1) | exact HB.out)⟩

/-- THE ONE PURE STATEMENT of glossatorlaw3_JournalRead: yours. -/
def glossatorlaw3_JournalRead.Pure : Prop := ∀ (a0 : ByteArray), a0.size ≤ 140737488351232 → ∃ k, glossatorlaw3_JournalRead.f k a0 = some true
theorem glossatorlaw3_JournalRead.walk (P : glossatorlaw3_JournalRead.Pure) (a0 : ByteArray) (w : World) (w0 : a0.size ≤ 140737488351232) :
    Calls Try.prog 4 #[.string a0] w fun e w' => e = .returned (.bool true) ∧ Below w.heap.size w w' := by
  obtain ⟨k, h⟩ := P a0 w0
  refine (glossatorlaw3_JournalRead.calls k a0 true w h).mono ?_
  rintro e w' ⟨rfl, hd⟩
  exact ⟨rfl, hd⟩

end Go.Proofs.Ytcikmpcacakfbaa.QJournalRead
