/-
  The pure statement of JournalAppend: checksum, frame and errors are the reference's.
-/
import Derived.Test.YtbfedkmiekbcmaaSJournalAppend
import Derived.Test.YtbfedkmiekbcmaaAid
import Derived.Laws.BitsAllLaws
namespace Go.Proofs.Ytbfedkmiekbcmaa.Pr
open Go.RowKit Go.Proofs.YtbfedkmiekbcmaaW.PrintWords Go.Proofs.YtbfedkmiekbcmaaW.PrintLast Go.Proofs.YtbfedkmiekbcmaaW.PrintMore Go.Proofs.Ytbfedkmiekbcmaa.QJournalAppend Go.Proofs.Ytbfedkmiekbcmaa.Aid
set_option linter.unusedSimpArgs false
set_option linter.unusedVariables false

theorem bt_in (s : ByteArray) (i : Int) : 0 ≤ bt s i ∧ bt s i < 256 := by
  unfold bt
  split
  · have := (s[i.toNat]'(by assumption)).toNat_lt
    omega
  · omega
def step (h b : Int) : Int := ((Go.bits .xor .u32 h (b % 4294967296)) * 16777619) % 4294967296
theorem step_in (h b : Int) : 0 ≤ step h b ∧ step h b < 4294967296 := by unfold step; omega
theorem xor_same (h b : Int) (h0 : 0 ≤ h) (h1 : h < 4294967296) (b0 : 0 ≤ b) (b1 : b < 256) :
    Int.tmod (IntKind.u64.wrap ((Go.bits .xor .u64 h (IntKind.u64.wrap b)) * 16777619)) 4294967296 = step h b := by
  have hw : IntKind.u64.wrap b = b := by simp [IntKind.wrap, IntKind.bits, IntKind.signed]; omega
  have hb : b % 4294967296 = b := by omega
  unfold step
  rw [hw, hb, Go.u32_xor h b h0 h1 b0 (by omega), Go.u64_xor h b h0 (by omega) b0 (by omega)]
  have lt : h.toNat ^^^ b.toNat < 2 ^ 32 := Nat.xor_lt_two_pow (by omega) (by omega)
  generalize h.toNat ^^^ b.toNat = x at lt
  have e : IntKind.u64.wrap ((x : Int) * 16777619) = (x : Int) * 16777619 := by simp [IntKind.wrap, IntKind.bits, IntKind.signed]; omega
  rw [e, Int.tmod_eq_emod_of_nonneg (by omega)]
/-- The checksum from byte i on, d bytes. -/
def run (s : ByteArray) : Nat → Nat → Int → Int
  | 0, _, h => h
  | d + 1, i, h => run s d (i + 1) (step h (bt s i))
theorem sum_l0 (s : ByteArray) (hs : s.size ≤ 1000000000000000) : ∀ (d i : Nat) (h : Int), i + d = s.size → Ev (fun k => journal_Checksum.l0 k s h (s.size : Int) (i : Int)) (run s d i h)
  | 0, i, h, e => by
    refine Ev.some' (fun k => ?_)
    simp only [journal_Checksum.l0]
    rw [if_neg (by omega)]
    rfl
  | d + 1, i, h, e => by
    have ih := sum_l0 s hs d (i + 1) (step h (bt s i)) (by omega)
    refine Ev.stepK ih (fun k => ?_)
    simp only [journal_Checksum.l0]
    rw [if_pos (by omega), if_pos (by omega), if_pos (by omega), wrap_id (by omega) (by omega)]
    rfl
theorem ref_l0 (s : ByteArray) (hs : s.size ≤ 1000000000000000) : ∀ (d i : Nat) (h : Int), i + d = s.size → 0 ≤ h → h < 4294967296 → Ev (fun k => glossatorref3_Checksum.l0 k s h (s.size : Int) (i : Int)) (run s d i h)
  | 0, i, h, e, h0, h1 => by
    refine Ev.some' (fun k => ?_)
    simp only [glossatorref3_Checksum.l0]
    rw [if_neg (by omega)]
    simp only [run]
    rw [Int.emod_eq_of_lt h0 h1]
  | d + 1, i, h, e, h0, h1 => by
    have ih := ref_l0 s hs d (i + 1) (step h (bt s i)) (by omega) (step_in _ _).1 (step_in _ _).2
    refine Ev.stepK ih (fun k => ?_)
    simp only [glossatorref3_Checksum.l0]
    rw [if_pos (by omega), if_pos (by omega), if_pos (by omega), wrap_id (by omega) (by omega), xor_same h _ h0 h1 (bt_in s i).1 (bt_in s i).2]
    rfl
def cks (s : ByteArray) : Int := run s s.size 0 2166136261
theorem sum_ev (s : ByteArray) (hs : s.size ≤ 1000000000000000) : Ev (fun k => journal_Checksum.f k s) (cks s) := sum_l0 s hs s.size 0 _ (by omega)
theorem sumref_ev (s : ByteArray) (hs : s.size ≤ 1000000000000000) : Ev (fun k => glossatorref3_Checksum.f k s) (cks s) := ref_l0 s hs s.size 0 _ (by omega) (by decide) (by decide)

/-- The error of a record. -/
def chk (key val : ByteArray) (del : Bool) : Int :=
  if key.toList = ([] : List UInt8) then 3 else if del = true ∧ val.toList ≠ ([] : List UInt8) then 3 else if (key.size : Int) > 60 then 2 else if (val.size : Int) > 3000 then 2 else 0
theorem validate_ev (key val : ByteArray) (del : Bool) : Ev (fun k => journal_validate.f k key val del) (chk key val del) := by
  have j0 : ∀ b, Ev (fun k => journal_validate.j0 k b key val del) (if b = true then 3 else if (key.size : Int) > 60 then 2 else if (val.size : Int) > 3000 then 2 else 0) := by
    intro b
    refine Ev.some' (fun k => ?_)
    simp only [journal_validate.j0]
    repeat' split
    all_goals rfl
  unfold journal_validate.f chk
  by_cases h0 : key.toList = ([] : List UInt8)
  · simp only [h0, if_true]
    exact j0 true
  · simp only [h0, if_false]
    cases del with
    | true =>
      simp only [if_true, true_and]
      by_cases h1 : val.toList = ([] : List UInt8)
      · have e := j0 (val.toList != ([] : List UInt8))
        simp only [h1] at e ⊢
        exact e
      · have e := j0 (val.toList != ([] : List UInt8))
        have hb : (val.toList != ([] : List UInt8)) = true := by simpa using h1
        rw [hb] at e ⊢
        simpa [h1] using e
    | false => exact j0 false
theorem check_ev (key val : ByteArray) (del : Bool) : Ev (fun k => glossatorref3_CheckRecord.f k key val del) (chk key val del) := by
  have j0 : ∀ b, Ev (fun k => glossatorref3_CheckRecord.j0 k b key val del) (if b = true then 3 else if (key.size : Int) > 60 then 2 else if (val.size : Int) > 3000 then 2 else 0) := by
    intro b
    refine Ev.some' (fun k => ?_)
    simp only [glossatorref3_CheckRecord.j0]
    repeat' split
    all_goals rfl
  unfold glossatorref3_CheckRecord.f chk
  by_cases h0 : key.toList = ([] : List UInt8)
  · simp only [h0, if_true]
    exact j0 true
  · simp only [h0, if_false]
    cases del with
    | true =>
      simp only [if_true, true_and]
      by_cases h1 : val.toList = ([] : List UInt8)
      · have e := j0 (val.toList != ([] : List UInt8))
        simp only [h1] at e ⊢
        exact e
      · have e := j0 (val.toList != ([] : List UInt8))
        have hb : (val.toList != ([] : List UInt8)) = true := by simpa using h1
        rw [hb] at e ⊢
        simpa [h1] using e
    | false => exact j0 false

theorem nums_size (xs : List Int) : (strOfNums xs).size = xs.length := by simp [strOfNums, ByteArray.size]
theorem app_assoc (a b c : ByteArray) : a ++ b ++ c = a ++ (b ++ c) := ByteArray.append_assoc
/-- The payload and its frame. -/
def pay (key val : ByteArray) (del : Bool) : ByteArray := strOfNums [if del then 1 else 0, (key.size : Int) % 256] ++ key ++ val
def frm (p : ByteArray) : ByteArray :=
  strOfNums [((p.size : Int) / 256) % 256, (p.size : Int) % 256] ++ strOfNums [(cks (strOfNums [((p.size : Int) / 256) % 256, (p.size : Int) % 256] ++ p) / 16777216) % 256, (cks (strOfNums [((p.size : Int) / 256) % 256, (p.size : Int) % 256] ++ p) / 65536) % 256, (cks (strOfNums [((p.size : Int) / 256) % 256, (p.size : Int) % 256] ++ p) / 256) % 256, (cks (strOfNums [((p.size : Int) / 256) % 256, (p.size : Int) % 256] ++ p)) % 256] ++ p
theorem flag1 (n : Int) : (⟨#[1]⟩ : ByteArray) ++ strOfNums [n] = strOfNums [1, n] := by
  apply ByteArray.ext
  simp [strOfNums]
theorem flag0 (n : Int) : (⟨#[0]⟩ : ByteArray) ++ strOfNums [n] = strOfNums [0, n] := by
  apply ByteArray.ext
  simp [strOfNums]
theorem pay_size (key val : ByteArray) (del : Bool) : (pay key val del).size = 2 + key.size + val.size := by
  unfold pay
  rw [ByteArray.size_append, ByteArray.size_append, nums_size]
  rfl
theorem payload_is (key val : ByteArray) (del : Bool) (hk : key.size ≤ 1000000) (hv : val.size ≤ 1000000) : journal_payload.f key val del = some (pay key val del) := by
  have s1 : ∀ n : Int, (strOfNums [n]).size = 1 := fun n => nums_size _
  have s2 : ∀ a b : Int, (strOfNums [a, b]).size = 2 := fun a b => nums_size _
  unfold journal_payload.f pay
  cases del with
  | true =>
    simp only [if_true, Option.bind_some]
    rw [flag1, if_pos (by rw [s1]; omega), if_pos (by rw [s2]; omega), if_pos (by rw [ByteArray.size_append, s2]; omega)]
  | false =>
    simp only [Bool.false_eq_true, if_false, Option.bind_some]
    rw [flag0, if_pos (by rw [s1]; omega), if_pos (by rw [s2]; omega), if_pos (by rw [ByteArray.size_append, s2]; omega)]
theorem frame_ev (p : ByteArray) (hp : p.size ≤ 1000000) : Ev (fun k => journal_frame.f k p) (frm p) := by
  have s2 : ∀ a b : Int, (strOfNums [a, b]).size = 2 := fun a b => nums_size _
  have s4 : ∀ a b c d : Int, (strOfNums [a, b, c, d]).size = 4 := fun a b c d => nums_size _
  unfold journal_frame.f
  simp only [Option.bind_some]
  refine Ev.pos (by rw [s2]; omega) (Ev.bind (sum_ev _ (by rw [ByteArray.size_append, s2]; omega)) ?_)
  rw [if_pos (by rw [s2, s4]; omega), if_pos (by rw [ByteArray.size_append, s2, s4]; omega)]
  exact Ev.now _
theorem Frame_ev (key val : ByteArray) (del : Bool) (hk : key.size ≤ 1000000) (hv : val.size ≤ 1000000) : Ev (fun k => glossatorref3_Frame.f k key val del) (frm (pay key val del)) := by
  have s2 : ∀ a b : Int, (strOfNums [a, b]).size = 2 := fun a b => nums_size _
  have s4 : ∀ a b c d : Int, (strOfNums [a, b, c, d]).size = 4 := fun a b c d => nums_size _
  have hp := pay_size key val del
  have fin : ∀ p : ByteArray, p.size ≤ 10000000 → Ev (fun k => (some ([(wrap64 ((p.size : Int) / 256)) % 256, (p.size : Int) % 256] : List Int)).bind fun y166 => (if (strOfNums y166).size + p.size ≤ 9223372036854775807 then ((glossatorref3_Checksum.f k ((strOfNums y166) ++ p)).bind fun t169 => ((glossatorref3_number32.f t169).bind fun t170 => (if (strOfNums y166).size + t170.size ≤ 9223372036854775807 then (if ((strOfNums y166) ++ t170).size + p.size ≤ 9223372036854775807 then (some (((strOfNums y166) ++ t170) ++ p)) else (none)) else (none)))) else (none))) (frm p) := by
    intro p hp
    simp only [Option.bind_some]
    rw [wrap_id (by omega) (by omega)]
    refine Ev.pos (by rw [s2]; omega) (Ev.bind (sumref_ev _ (by rw [ByteArray.size_append, s2]; omega)) ?_)
    simp only [glossatorref3_number32.f, Option.bind_some]
    rw [if_pos (by rw [s2, s4]; omega), if_pos (by rw [ByteArray.size_append, s2, s4]; omega)]
    exact Ev.now _
  unfold glossatorref3_Frame.f
  cases del with
  | true =>
    simp only [if_true]
    refine Ev.bind (Ev.now _) ?_
    exact Ev.pos (by rw [s2]; omega) (Ev.pos (by rw [ByteArray.size_append, s2]; omega) (fin (pay key val true) (by omega)))
  | false =>
    simp only [Bool.false_eq_true, if_false]
    refine Ev.bind (Ev.now _) ?_
    exact Ev.pos (by rw [s2]; omega) (Ev.pos (by rw [ByteArray.size_append, s2]; omega) (fin (pay key val false) (by omega)))
theorem frm_size (p : ByteArray) : (frm p).size = 6 + p.size := by
  have s2 : ∀ a b : Int, (strOfNums [a, b]).size = 2 := fun a b => nums_size _
  have s4 : ∀ a b c d : Int, (strOfNums [a, b, c, d]).size = 4 := fun a b c d => nums_size _
  unfold frm
  rw [ByteArray.size_append, ByteArray.size_append, s2, s4]
theorem empty_list : (⟨#[]⟩ : ByteArray).toList = ([] : List UInt8) := by decide +kernel
theorem chk_zero {key val : ByteArray} {del : Bool} (h : chk key val del = 0) : key.size ≤ 60 ∧ val.size ≤ 3000 := by
  unfold chk at h
  repeat' split at h
  all_goals first | (simp at h; done) | omega
theorem example_ev : Ev (fun k => glossatorlaw3_journalExample.f k) true :=
  Ev.of (k := 40) (fun k => glossatorlaw3_journalExample.mono k) (by decide +kernel)
theorem append_of (a key val : ByteArray) (del : Bool) (r : ByteArray × Int) (h : Ev (fun k => if chk key val del = 0 then ((journal_payload.f key val del).bind fun t118 => ((journal_frame.f k t118).bind fun t119 => (if (wrap64 ((a.size : Int) + (t119.size : Int))) > 40000 then (some ((⟨#[]⟩ : ByteArray), 2)) else (if a.size + t119.size ≤ 9223372036854775807 then (some (a ++ t119, 0)) else (none))))) else (some ((⟨#[]⟩ : ByteArray), chk key val del))) r) : Ev (fun k => journal_Append.f k a key val del) r := by
  unfold journal_Append.f
  exact Ev.bind (validate_ev key val del) h
theorem append_fit (a F : ByteArray) (hF : F.size ≤ 1000000) (ha : a.size ≤ 140737488351232) : (if (wrap64 ((a.size : Int) + (F.size : Int))) > 40000 then (some ((⟨#[]⟩ : ByteArray), (2 : Int))) else (if a.size + F.size ≤ 9223372036854775807 then (some (a ++ F, 0)) else (none))) =
    some (if (a.size : Int) + (F.size : Int) > 40000 then ((⟨#[]⟩ : ByteArray), 2) else (a ++ F, 0)) := by
  rw [wrap_id (by omega) (by omega)]
  by_cases hg : (a.size : Int) + (F.size : Int) > 40000
  · rw [if_pos hg, if_pos hg]
  · rw [if_neg hg, if_neg hg, if_pos (by omega)]
theorem append_ev (a key val : ByteArray) (del : Bool) (ha : a.size ≤ 140737488351232) : Ev (fun k => journal_Append.f k a key val del)
    (if chk key val del = 0 then (if (a.size : Int) + ((frm (pay key val del)).size : Int) > 40000 then ((⟨#[]⟩ : ByteArray), 2) else (a ++ frm (pay key val del), 0)) else ((⟨#[]⟩ : ByteArray), chk key val del)) := by
  refine append_of a key val del _ ?_
  by_cases h0 : chk key val del = 0
  · obtain ⟨hk, hv⟩ := chk_zero h0
    have hp := pay_size key val del
    have hf := frm_size (pay key val del)
    rw [if_pos h0]
    refine Ev.pos h0 ?_
    rw [payload_is key val del (by omega) (by omega)]
    exact Ev.bind (Ev.now (pay key val del)) (Ev.bind (frame_ev (pay key val del) (by omega)) (Ev.same (Ev.now _) (fun k => append_fit a (frm (pay key val del)) (by omega) ha)))
  · rw [if_neg h0]
    exact Ev.neg h0 (Ev.now _)
theorem JournalAppend : glossatorlaw3_JournalAppend.Pure := by
  intro a r ha hr
  obtain ⟨h0, h1, _⟩ := hr
  refine Ev.rounds (r := true) ?_
  refine Ev.bind example_ev ?_
  simp only [if_true]
  refine Ev.bind (append_ev a r.f0 r.f1 r.f2 ha) ?_
  refine Ev.bind (check_ev r.f0 r.f1 r.f2) ?_
  have sums : Ev (fun k => (journal_Checksum.f k a).bind fun t186 => ((glossatorref3_Checksum.f k a).bind fun t187 => (some (t186 == t187)))) true := by
    refine Ev.bind (sum_ev a (by omega)) (Ev.bind (sumref_ev a (by omega)) ?_)
    simp only [beq_self_eq_true]
    exact Ev.now _
  by_cases hc : chk r.f0 r.f1 r.f2 = 0
  · obtain ⟨hk, hv⟩ := chk_zero hc
    have hp := pay_size r.f0 r.f1 r.f2
    have hf := frm_size (pay r.f0 r.f1 r.f2)
    simp only [hc, if_true]
    refine Ev.bind (Frame_ev r.f0 r.f1 r.f2 (by omega) (by omega)) ?_
    refine Ev.pos (by omega) ?_
    have hs : (((a ++ frm (pay r.f0 r.f1 r.f2)).size : Nat) : Int) = (a.size : Int) + ((frm (pay r.f0 r.f1 r.f2)).size : Int) := by rw [ByteArray.size_append]; omega
    by_cases hg : (a.size : Int) + ((frm (pay r.f0 r.f1 r.f2)).size : Int) > 40000
    · refine Ev.pos (by rw [hs]; exact hg) ?_
      simp only [hg, if_true]
      refine Ev.bind example_ev ?_
      simp only [if_true]
      exact Ev.pos empty_list sums
    · refine Ev.neg (by rw [hs]; exact hg) ?_
      simp only [hg, if_false]
      refine Ev.bind example_ev ?_
      simp only [if_true]
      exact sums
  · simp only [hc, if_false]
    refine Ev.bind example_ev ?_
    simp only [if_true]
    exact Ev.pos empty_list sums
end Go.Proofs.Ytbfedkmiekbcmaa.Pr
