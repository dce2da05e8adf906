/-
  The traces and the canonical edits, as the program and the reference come to them.
-/
import Derived.Test.YtbfedkmiekbcmaaLiTexteditTransformEqualsReference
namespace Go.Proofs.Ytbfedkmiekbcmaa.PrTexteditTransformEqualsReference
open Go.RowKit Go.Proofs.YtbfedkmiekbcmaaW.PrintWords Go.Proofs.YtbfedkmiekbcmaaW.PrintLast Go.Proofs.YtbfedkmiekbcmaaW.PrintMore Go.Proofs.Ytbfedkmiekbcmaa.QTexteditTransformEqualsReference Go.Proofs.Ytbfedkmiekbcmaa.Aid
set_option linter.unusedSimpArgs false
set_option linter.unusedVariables false
set_option linter.unusedSectionVars false
def cc (x : S200) : S193 := ⟨x.f0, x.f1⟩
theorem bt_getD (s : ByteArray) (j : Nat) (h : j < s.size) : bt s (j : Int) = ((s.data.toList.getD j 0).toNat : Int) := by
  unfold bt
  rw [dif_pos (by rw [Int.toNat_natCast]; exact h)]
  rw [List.getD_eq_getElem?_getD, List.getElem?_eq_getElem (by show j < s.data.toList.length; simpa using h)]
  simp only [Int.toNat_natCast, Option.getD_some, Array.getElem_toList]
  rfl
theorem insB_at (o : Int) (s : ByteArray) {j : Nat} (h : j < s.size) : (insB o s).take (j + 1) = (insB o s).take j ++ [⟨bt s j, o⟩] := by
  rw [insB_take o s h, bt_getD s j h]
def trS (src : ByteArray) : List S200 := (List.range src.size).map (fun (i : Nat) => (⟨bt src i, i⟩ : S200))
theorem trS_length (src : ByteArray) : (trS src).length = src.size := by simp [trS]
theorem trS_get (src : ByteArray) {i : Nat} (h : i < src.size) : (trS src)[i]? = some ⟨bt src i, i⟩ := by simp [trS, h]
theorem trS_take (src : ByteArray) {i : Nat} (h : i < src.size) : (trS src).take (i + 1) = (trS src).take i ++ [⟨bt src i, i⟩] := by
  rw [List.take_add_one, trS_get src h]
  rfl
theorem trS_mem {src : ByteArray} {x : S200} (h : x ∈ trS src) : 0 ≤ x.f1 ∧ x.f1 < src.size := by
  unfold trS at h
  obtain ⟨i, hi, rfl⟩ := List.mem_map.1 h
  have := List.mem_range.1 hi
  simp only
  omega
theorem trace0 (src : ByteArray) (hs : src.size ≤ 2000) : ∀ (d i : Nat) (x : List S200), i + d = src.size → x.length = src.size → (∀ j, j < i → x[j]? = (trS src)[j]?) → Ev (fun k => textedit_trace.l0 k src x (src.size : Int) (i : Int)) (trS src) := by
  intro d
  induction d with
  | zero =>
    intro i x hi hx h
    have : x = trS src := by
      refine List.ext_getElem? (fun j => ?_)
      by_cases c : j < i
      · exact h j c
      · rw [List.getElem?_eq_none (by omega), List.getElem?_eq_none (by rw [trS_length]; omega)]
    refine Ev.some' (fun k => ?_)
    simp only [textedit_trace.l0]
    rw [if_neg (by omega), this]
  | succ d ih =>
    intro i x hi hx h
    refine Ev.stepK (ih (i + 1) (x.set i ⟨bt src i, i⟩) (by omega) (by rw [List.length_set]; exact hx) (fun j hj => ?_)) (fun k => ?_)
    · by_cases c : j = i
      · subst c
        rw [List.getElem?_set_self (by omega), trS_get src (by omega)]
      · rw [List.getElem?_set_ne (by omega)]
        exact h j (by omega)
    · simp only [textedit_trace.l0]
      rw [if_pos (by omega), if_pos (by omega), if_pos (by omega), if_pos (by omega), wrap_id (n := (i : Int) + 1) (by omega) (by omega), Int.toNat_natCast]
      rfl
theorem trace_ev (src : ByteArray) (hs : src.size ≤ 2000) : Ev (fun k => textedit_trace.f k src) (trS src) := by
  unfold textedit_trace.f
  refine Ev.pos (by omega) (Ev.pos (by omega) ?_)
  rw [Int.toNat_natCast]
  have := trace0 src hs src.size 0 (List.replicate src.size z200) (by omega) (by simp) (fun j h => absurd h (by omega))
  refine Ev.same this (fun k => ?_)
  rw [Option.bind_some, List.length_replicate]
  rfl
theorem insAt_ev (l : List S137) (hl : l.length ≤ 1000) (a : Int) : Ev (fun k => glossatorref4_InsertedAt.f k l a) (insF a l) := insF_ev l hl a l 0 rfl
theorem delAt_ev (l : List S137) (hl : l.length ≤ 1000) (a : Int) : Ev (fun k => glossatorref4_DeletesByte.f k l a) (delF a l) := delF_ev l hl a l 0 rfl
theorem rd193_cc (bs : List S200) {i : Nat} {b : S200} {r : List S200} (h : bs.drop i = b :: r) : i < bs.length ∧ bs.drop (i + 1) = r ∧ rd_T193 (bs.map cc) (i : Int) = cc b ∧ b ∈ bs := by
  have hlt : i < bs.length := by
    rcases Nat.lt_or_ge i bs.length with h' | h'
    · exact h'
    · rw [List.drop_of_length_le h'] at h; cases h
  rw [List.drop_eq_getElem_cons hlt] at h
  injection h with h1 h2
  refine ⟨hlt, h2, ?_, by rw [← h1]; exact List.getElem_mem hlt⟩
  unfold rd_T193
  rw [Int.toNat_natCast, List.getD_eq_getElem?_getD, List.getElem?_map, List.getElem?_eq_getElem hlt, h1]
  rfl
/-- What CanonicalEdits answers. -/
def canB (es : List S137) : List S137 × Bool := if (es.length : Int) > 50 then ([], false) else (es, true)
theorem strOfNums_app (a b : List Int) : strOfNums (a ++ b) = strOfNums a ++ strOfNums b := by
  apply ByteArray.ext
  simp [strOfNums]
theorem ba_toList (s : ByteArray) : s.toList = [] ↔ s.size = 0 := by
  rw [ByteArray.toList_eq s, List.eq_nil_iff_length_eq_zero]
  rfl
theorem canon1 {n : Int} (hn : 0 ≤ n) (hn' : n ≤ 1000000000) (bs : List S200) (hl : bs.length ≤ 1000000000) (hb : ∀ b ∈ bs, b.f1 = -1 ∨ 0 ≤ b.f1 ∧ b.f1 < n) : ∀ (r : List S200) (i : Nat) (start : Int) (pend : List Int) (out : List S137), bs.drop i = r → i ≤ bs.length → pend.length ≤ i → out.length ≤ i → 
    Ev (fun k => glossatorref4_CanonicalEdits.l1 k n (bs.map cc) out (i : Int) start (strOfNums pend)) (canB (out ++ canL n r start pend)) := by
  intro r
  induction r with
  | nil =>
    intro i start pend out hr hi hp ho
    have hlen : bs.length ≤ i := List.drop_eq_nil_iff.1 hr
    have fin : ∀ (o : List S137) (j : Int), Ev (fun k => glossatorref4_CanonicalEdits.l0 k n (bs.map cc) o j (wrap64 (n + 1))) (canB o) := by
      intro o j
      refine Ev.some' (fun k => ?_)
      simp only [glossatorref4_CanonicalEdits.l0]
      rw [wrap_id (n := n + 1) (by omega) (by omega), if_neg (by omega)]
      unfold canB
      split <;> rfl
    have e0 : ((strOfNums pend).toList = [] ↔ pend = []) := by rw [ba_toList, strOfNums_size, List.length_eq_zero_iff]
    refine Ev.stepK (f := fun k => glossatorref4_CanonicalEdits.j2 k n (bs.map cc) out (i : Int) start (strOfNums pend)) ?_ (fun k => ?_)
    · rw [canL]
      by_cases c : n > start
      · rw [if_pos (.inl c)]
        refine Ev.stepK (fin (out ++ [⟨start, n, strOfNums pend⟩]) (wrap64 ((i : Int) + 1))) (fun k => ?_)
        simp only [glossatorref4_CanonicalEdits.j2]
        rw [if_neg (by rw [List.length_map]; omega), if_pos c, if_pos (by omega)]
      · by_cases d : pend = []
        · rw [if_neg (by rintro (h | h); exact c h; exact h d), List.append_nil]
          refine Ev.stepK (fin out (wrap64 ((i : Int) + 1))) (fun k => ?_)
          simp only [glossatorref4_CanonicalEdits.j2]
          rw [if_neg (by rw [List.length_map]; omega), if_neg c, if_pos (e0.2 d)]
        · rw [if_pos (.inr d)]
          refine Ev.stepK (fin (out ++ [⟨start, n, strOfNums pend⟩]) (wrap64 ((i : Int) + 1))) (fun k => ?_)
          simp only [glossatorref4_CanonicalEdits.j2]
          rw [if_neg (by rw [List.length_map]; omega), if_neg c, if_neg (fun h => d (e0.1 h)), if_pos (by omega)]
    · simp only [glossatorref4_CanonicalEdits.l1]
      rw [if_neg (by rw [List.length_map]; omega)]
  | cons b r ih =>
    intro i start pend out hr hi hp ho
    obtain ⟨q1, q2, q3, q4⟩ := rd193_cc bs hr
    have e0 : ((strOfNums pend).toList = [] ↔ pend = []) := by rw [ba_toList, strOfNums_size, List.length_eq_zero_iff]
    have hb0 := hb b q4
    rw [canL]
    by_cases c : b.f1 = -1
    · rw [if_pos c]
      refine Ev.stepK (ih (i + 1) start (pend ++ [b.f0]) out q2 (by omega) (by rw [List.length_append]; simp; omega) (by omega)) (fun k => ?_)
      simp only [glossatorref4_CanonicalEdits.l1]
      rw [if_pos (by rw [List.length_map]; omega), if_pos (by omega), q3, if_pos (by show b.f1 < 0; omega), Option.bind_some]
      have e1 : (strOfNums [(cc b).f0]).size = 1 := by rw [strOfNums_size]; rfl
      rw [if_pos (by rw [e1, strOfNums_size]; omega), wrap_id (n := (i : Int) + 1) (by omega) (by omega), strOfNums_app]
      rfl
    · rw [if_neg c]
      have next : ∀ (o : List S137), o.length ≤ i + 1 → Ev (fun k => glossatorref4_CanonicalEdits.l0 k n (bs.map cc) o (wrap64 ((i : Int) + 1)) (wrap64 (b.f1 + 1))) (canB (o ++ canL n r (b.f1 + 1) [])) := by
        intro o ho
        refine Ev.stepK (ih (i + 1) (b.f1 + 1) [] o q2 (by omega) (by simp) ho) (fun k => ?_)
        simp only [glossatorref4_CanonicalEdits.l0]
        rw [wrap_id (n := b.f1 + 1) (by omega) (by omega), if_pos (by omega), wrap_id (n := (i : Int) + 1) (by omega) (by omega)]
        rfl
      have e2 : (cc b).f1 = b.f1 := rfl
      refine Ev.stepK (f := fun k => glossatorref4_CanonicalEdits.j2 k n (bs.map cc) out (i : Int) start (strOfNums pend)) ?_ (fun k => ?_)
      · by_cases d : b.f1 > start
        · rw [if_pos (.inl d), ← List.append_assoc]
          refine Ev.stepK (next (out ++ [⟨start, b.f1, strOfNums pend⟩]) (by rw [List.length_append]; simp; omega)) (fun k => ?_)
          simp only [glossatorref4_CanonicalEdits.j2]
          rw [if_pos (by rw [List.length_map]; omega), if_pos (by omega), q3, e2, if_pos d, if_pos (by omega)]
        · by_cases f : pend = []
          · rw [if_neg (by rintro (h | h); exact d h; exact h f), List.nil_append]
            refine Ev.stepK (next out (by omega)) (fun k => ?_)
            simp only [glossatorref4_CanonicalEdits.j2]
            rw [if_pos (by rw [List.length_map]; omega), if_pos (by omega), q3, e2, if_neg d, if_pos (e0.2 f)]
          · rw [if_pos (.inr f), ← List.append_assoc]
            refine Ev.stepK (next (out ++ [⟨start, b.f1, strOfNums pend⟩]) (by rw [List.length_append]; simp; omega)) (fun k => ?_)
            simp only [glossatorref4_CanonicalEdits.j2]
            rw [if_pos (by rw [List.length_map]; omega), if_pos (by omega), q3, e2, if_neg d, if_neg (fun h => f (e0.1 h)), if_pos (by omega)]
      · simp only [glossatorref4_CanonicalEdits.l1]
        rw [if_pos (by rw [List.length_map]; omega), if_pos (by omega), q3, if_neg (by rw [e2]; omega)]
theorem canonical_ev {n : Int} (hn : 0 ≤ n) (hn' : n ≤ 1000000000) {bs : List S200} (hl : bs.length ≤ 1000000000) (hb : ∀ b ∈ bs, b.f1 = -1 ∨ 0 ≤ b.f1 ∧ b.f1 < n) : Ev (fun k => glossatorref4_CanonicalEdits.f k n (bs.map cc)) (canB (canL n bs 0 [])) := by
  have := canon1 hn hn' bs hl hb bs 0 0 [] [] rfl (by omega) (by simp) (by simp)
  rw [List.nil_append] at this
  refine Ev.stepK this (fun k => ?_)
  unfold glossatorref4_CanonicalEdits.f
  simp only [glossatorref4_CanonicalEdits.l0]
  rw [if_pos hn]
  rfl
end Go.Proofs.Ytbfedkmiekbcmaa.PrTexteditTransformEqualsReference
