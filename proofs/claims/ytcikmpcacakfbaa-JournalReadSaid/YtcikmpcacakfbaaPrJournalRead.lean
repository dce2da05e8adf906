/-
  The pure statement of JournalRead: Read, Recover and Compact give what the reference reads.
-/
import Derived.Test.YtcikmpcacakfbaaSJournalRead
import Derived.Test.YtcikmpcacakfbaaAid
namespace Go.Proofs.Ytcikmpcacakfbaa.Pr
open Go.RowKit Go.Proofs.YtcikmpcacakfbaaW.PrintWords Go.Proofs.YtcikmpcacakfbaaW.PrintLast Go.Proofs.YtcikmpcacakfbaaW.PrintMore Go.Proofs.Ytcikmpcacakfbaa.QJournalRead Go.Proofs.Ytcikmpcacakfbaa.Aid Go.Proofs.Ytcikmpcacakfbaa.Hand
set_option linter.unusedVariables false
set_option linter.unusedSimpArgs false
theorem dropJ {α : Type} {xs t : List α} {x : α} {i : Nat} (h : xs.drop i = x :: t) : i < xs.length ∧ xs.drop (i + 1) = t ∧ (∀ d, xs.getD ((i : Int)).toNat d = x) ∧ xs.take (i + 1) = xs.take i ++ [x] := by
  have hl : i < xs.length := by
    rcases Nat.lt_or_ge i xs.length with h1 | h1
    · exact h1
    · rw [List.drop_eq_nil_of_le h1] at h; cases h
  rw [List.drop_eq_getElem_cons hl] at h
  injection h with h1 h2
  refine ⟨hl, h2, fun d => ?_, ?_⟩
  · rw [Int.toNat_natCast, List.getD_eq_getElem?_getD, List.getElem?_eq_getElem hl]
    exact h1
  · rw [List.take_add_one, List.getElem?_eq_getElem hl, h1]
    rfl
theorem eqJ_l0 (xs : List S26) (hx : xs.length ≤ 140737488355328) : ∀ (t : List S26) (i : Nat), xs.drop i = t → Ev (fun k => api_QRecord.l0 k xs xs (xs.length : Int) (i : Int)) true
  | [], i, h => by
    have : xs.length ≤ i := by simpa using h
    exact Ev.some' (fun k => by simp only [api_QRecord.l0]; rw [if_neg (by omega)])
  | x :: t, i, h => by
    obtain ⟨h1, h2, h3, _⟩ := dropJ h
    refine Ev.stepK (eqJ_l0 xs hx t (i + 1) h2) (fun k => ?_)
    simp only [api_QRecord.l0]
    rw [if_pos (by omega), if_pos (by omega), if_pos (by omega), if_pos (by omega), if_neg (by simp), wrap_id (by omega) (by omega)]
    rfl
theorem eqJ (xs : List S26) (hx : xs.length ≤ 140737488355328) : Ev (fun k => api_QRecord.f k xs xs) true :=
  Ev.same (eqJ_l0 xs hx xs 0 rfl) (fun k => by unfold api_QRecord.f; rw [if_pos rfl]; rfl)
def lastF (key : ByteArray) (acc : S26) (r : S26) : S26 := if r.f0 = key then r else acc
theorem lastF_eq (key : ByteArray) (l : List S26) (z : S26) : l.foldl (lastF key) z = (lastR l key).getD z := by
  refine snoc_ind (P := fun l => l.foldl (lastF key) z = (lastR l key).getD z) rfl (fun l x ih => ?_) l
  rw [List.foldl_append, ih]
  unfold lastR
  rw [List.reverse_append, List.reverse_singleton, List.singleton_append, List.foldl_cons, List.foldl_nil]
  by_cases h : x.f0 = key
  · rw [List.find?_cons_of_pos (by simpa using h)]
    simp [lastF, h]
  · rw [List.find?_cons_of_neg (by simpa using h)]
    simp [lastF, h]
theorem bytes_iff (a b : ByteArray) : a.toList = b.toList ↔ a = b := by
  rw [ByteArray.toList_eq, ByteArray.toList_eq]
  exact ⟨fun h => ByteArray.ext (Array.toList_inj.mp h), fun h => by rw [h]⟩
theorem state_l2 (l : List S26) (hl : l.length ≤ 100000) (x6 : List S26) (key : ByteArray) (S : List ByteArray) (n : Int) (i : Int) (res : List S26) (hrest : ∀ a : S26, a = l.foldl (lastF key) z26 → Ev (fun k => (if a.f2 = true then (glossatorref3_State.l1 k l x6 S n (wrap64 (i + 1))) else (if x6.length < 3518437208883 then (glossatorref3_State.l1 k l (x6 ++ [(⟨a.f0, a.f1, a.f2⟩ : S26)]) S n (wrap64 (i + 1))) else (none)))) res) :
    ∀ (t : List S26) (j : Nat) (acc : S26), l.drop j = t → acc = (l.take j).foldl (lastF key) z26 → Ev (fun k => glossatorref3_State.l2 k l x6 key S n i l (l.length : Int) (j : Int) acc.f0 acc.f1 acc.f2) res
  | [], j, acc, h, ha => by
    have hj : l.length ≤ j := by simpa using h
    rw [List.take_of_length_le hj] at ha
    refine Ev.stepK (hrest acc ha) (fun k => ?_)
    simp only [glossatorref3_State.l2]
    rw [if_neg (by omega)]
  | x :: t, j, acc, h, ha => by
    obtain ⟨h1, h2, h3, h4⟩ := dropJ h
    have hrd : rd_T26 l (j : Int) = x := h3 z26
    have ih := state_l2 l hl x6 key S n i res hrest t (j + 1) (lastF key acc x) h2 (by rw [h4, List.foldl_append, ← ha]; rfl)
    refine Ev.stepK ih (fun k => ?_)
    simp only [glossatorref3_State.l2]
    rw [if_pos (by omega), if_pos (by omega), if_pos (by omega), hrd]
    by_cases c : x.f0 = key
    · rw [if_pos ((bytes_iff _ _).2 c), wrap_id (by omega) (by omega)]
      simp [lastF, c]
    · rw [if_neg (fun e => c ((bytes_iff _ _).1 e)), wrap_id (by omega) (by omega)]
      simp [lastF, c]
theorem state_l1 (l : List S26) (hl : l.length ≤ 100000) (S : List ByteArray) (hS : S.length ≤ 100000) (hm : ∀ k ∈ S, ∃ r ∈ l, r.f0 = k) : ∀ (t : List ByteArray) (i : Nat), S.drop i = t →
    Ev (fun k => glossatorref3_State.l1 k l ((S.take i).filterMap (fun k => alive (lastR l k))) S (S.length : Int) (i : Int)) (S.filterMap (fun k => alive (lastR l k)))
  | [], i, h => by
    have hi : S.length ≤ i := by simpa using h
    rw [List.take_of_length_le hi]
    exact Ev.some' (fun k => by simp only [glossatorref3_State.l1]; rw [if_neg (by omega)])
  | x :: t, i, h => by
    obtain ⟨h1, h2, h3, h4⟩ := dropJ h
    have hrd : rdOf ByteArray.empty S (i : Int) = x := h3 _
    have ih := state_l1 l hl S hS hm t (i + 1) h2
    have hlen : ((S.take i).filterMap (fun k => alive (lastR l k))).length ≤ 100000 := by
      have := List.length_filterMap_le (fun k => alive (lastR l k)) (S.take i)
      rw [List.length_take] at this
      omega
    refine Ev.stepK (state_l2 l hl ((S.take i).filterMap (fun k => alive (lastR l k))) x S (S.length : Int) (i : Int) _ (fun a ha => ?_) l 0 z26 rfl rfl) (fun k => ?_)
    · rw [lastF_eq] at ha
      have hxm : x ∈ S := List.mem_of_mem_drop (i := i) (by rw [h]; exact List.mem_cons_self)
      obtain ⟨r0, hr0, hk0⟩ := hm x hxm
      cases e : lastR l x with
      | none =>
        unfold lastR at e
        have := List.find?_eq_none.1 e r0 (by simpa using hr0)
        simp [hk0] at this
      | some r =>
        rw [e] at ha
        have ha' : a = r := ha
        subst ha'
        refine Ev.same ih (fun k => ?_)
        rw [h4, List.filterMap_append]
        by_cases hd : a.f2 = true
        · rw [if_pos hd, wrap_id (by omega) (by omega)]
          simp [alive, e, hd]
        · rw [if_neg hd, if_pos (by omega), wrap_id (by omega) (by omega)]
          have hal : [x].filterMap (fun k => alive (lastR l k)) = [a] := by simp [alive, e, hd]
          rw [hal]
          rfl
    · simp only [glossatorref3_State.l1]
      rw [if_pos (by omega), if_pos (by omega), if_pos (by omega), hrd]
      rfl
theorem sortS_len (k : List ByteArray) : (sortS k).length ≤ k.length := by
  refine snoc_ind (P := fun k => (sortS k).length ≤ k.length) (Nat.le_refl _) (fun k x ih => ?_) k
  rw [sortS_snoc]
  have := insS_len (sortS k) x
  simp
  omega
theorem state_l0 (l : List S26) (hl : l.length ≤ 100000) : ∀ (t : List S26) (i : Nat), l.drop i = t → Ev (fun k => glossatorref3_State.l0 k l ((l.take i).map (fun r => r.f0)) l (l.length : Int) (i : Int)) (stateR l)
  | [], i, h => by
    have hi : l.length ≤ i := by simpa using h
    rw [List.take_of_length_le hi]
    have hsl := sortS_len (l.map (fun r => r.f0))
    have h1 := state_l1 l hl (sortS (l.map (fun r => r.f0))) (by simp at hsl; omega) (fun k hk => by
      obtain ⟨r, hr, e⟩ := List.mem_map.1 (mem_sortS.1 hk)
      exact ⟨r, hr, e⟩) _ 0 rfl
    refine Ev.stepK h1 (fun k => ?_)
    simp only [glossatorref3_State.l0]
    rw [if_neg (by omega)]
    unfold glossatorref3_SortStrings.f
    rw [if_pos (by simp; omega)]
    rfl
  | x :: t, i, h => by
    obtain ⟨h1, h2, h3, h4⟩ := dropJ h
    have hrd : rd_T26 l (i : Int) = x := h3 z26
    refine Ev.stepK (state_l0 l hl t (i + 1) h2) (fun k => ?_)
    simp only [glossatorref3_State.l0]
    rw [if_pos (by omega), if_pos (by omega), if_pos (by omega), if_pos (by simp; omega), hrd, h4, wrap_id (by omega) (by omega)]
    simp
theorem state_ev (l : List S26) (hl : l.length ≤ 100000) : Ev (fun k => glossatorref3_State.f k l) (stateR l) := state_l0 l hl l 0 rfl
theorem stateR_len (l : List S26) : (stateR l).length ≤ l.length := by
  unfold stateR
  have h1 := List.length_filterMap_le (fun k => alive (lastR l k)) (sortS (l.map (fun r => r.f0)))
  have h2 := sortS_len (l.map (fun r => r.f0))
  simp at h2
  omega
theorem nums_size (xs : List Int) : (strOfNums xs).size = xs.length := by simp [strOfNums, ByteArray.size]
theorem app_assoc (a b c : ByteArray) : a ++ b ++ c = a ++ (b ++ c) := ByteArray.append_assoc
/-- The payload and its frame. -/
def pay (key val : ByteArray) (del : Bool) : ByteArray := strOfNums [if del then 1 else 0, (key.size : Int) % 256] ++ key ++ val
def frm (p : ByteArray) : ByteArray :=
  strOfNums [((p.size : Int) / 256) % 256, (p.size : Int) % 256] ++ strOfNums [(cks (strOfNums [((p.size : Int) / 256) % 256, (p.size : Int) % 256] ++ p) / 16777216) % 256, (cks (strOfNums [((p.size : Int) / 256) % 256, (p.size : Int) % 256] ++ p) / 65536) % 256, (cks (strOfNums [((p.size : Int) / 256) % 256, (p.size : Int) % 256] ++ p) / 256) % 256, (cks (strOfNums [((p.size : Int) / 256) % 256, (p.size : Int) % 256] ++ p)) % 256] ++ p
theorem flag1 (n : Int) : (⟨#[1]⟩ : ByteArray) ++ strOfNums [n] = strOfNums [1, n] := by
  apply ByteArray.ext
  simp [strOfNums]
theorem flag0 (n : Int) : (⟨#[0]⟩ : ByteArray) ++ strOfNums [n] = strOfNums [0, n] := by
  apply ByteArray.ext
  simp [strOfNums]
theorem pay_size (key val : ByteArray) (del : Bool) : (pay key val del).size = 2 + key.size + val.size := by
  unfold pay
  rw [ByteArray.size_append, ByteArray.size_append, nums_size]
  rfl
theorem payload_is (key val : ByteArray) (del : Bool) (hk : key.size ≤ 1000000) (hv : val.size ≤ 1000000) : journal_payload.f key val del = some (pay key val del) := by
  have s1 : ∀ n : Int, (strOfNums [n]).size = 1 := fun n => nums_size _
  have s2 : ∀ a b : Int, (strOfNums [a, b]).size = 2 := fun a b => nums_size _
  unfold journal_payload.f pay
  cases del with
  | true =>
    simp only [if_true, Option.bind_some]
    rw [flag1, if_pos (by rw [s1]; omega), if_pos (by rw [s2]; omega), if_pos (by rw [ByteArray.size_append, s2]; omega)]
  | false =>
    simp only [Bool.false_eq_true, if_false, Option.bind_some]
    rw [flag0, if_pos (by rw [s1]; omega), if_pos (by rw [s2]; omega), if_pos (by rw [ByteArray.size_append, s2]; omega)]
theorem frame_ev (p : ByteArray) (hp : p.size ≤ 1000000) : Ev (fun k => journal_frame.f k p) (frm p) := by
  have s2 : ∀ a b : Int, (strOfNums [a, b]).size = 2 := fun a b => nums_size _
  have s4 : ∀ a b c d : Int, (strOfNums [a, b, c, d]).size = 4 := fun a b c d => nums_size _
  unfold journal_frame.f
  simp only [Option.bind_some]
  refine Ev.pos (by rw [s2]; omega) (Ev.bind (sum_ev _ (by rw [ByteArray.size_append, s2]; omega)) ?_)
  rw [if_pos (by rw [s2, s4]; omega), if_pos (by rw [ByteArray.size_append, s2, s4]; omega)]
  exact Ev.now _
theorem Frame_ev (key val : ByteArray) (del : Bool) (hk : key.size ≤ 1000000) (hv : val.size ≤ 1000000) : Ev (fun k => glossatorref3_Frame.f k key val del) (frm (pay key val del)) := by
  have s2 : ∀ a b : Int, (strOfNums [a, b]).size = 2 := fun a b => nums_size _
  have s4 : ∀ a b c d : Int, (strOfNums [a, b, c, d]).size = 4 := fun a b c d => nums_size _
  have hp := pay_size key val del
  have fin : ∀ p : ByteArray, p.size ≤ 10000000 → Ev (fun k => (some ([(wrap64 ((p.size : Int) / 256)) % 256, (p.size : Int) % 256] : List Int)).bind fun y166 => (if (strOfNums y166).size + p.size ≤ 9223372036854775807 then ((glossatorref3_Checksum.f k ((strOfNums y166) ++ p)).bind fun t169 => ((glossatorref3_number32.f t169).bind fun t170 => (if (strOfNums y166).size + t170.size ≤ 9223372036854775807 then (if ((strOfNums y166) ++ t170).size + p.size ≤ 9223372036854775807 then (some (((strOfNums y166) ++ t170) ++ p)) else (none)) else (none)))) else (none))) (frm p) := by
    intro p hp
    simp only [Option.bind_some]
    rw [wrap_id (by omega) (by omega)]
    refine Ev.pos (by rw [s2]; omega) (Ev.bind (sumref_ev _ (by rw [ByteArray.size_append, s2]; omega)) ?_)
    simp only [glossatorref3_number32.f, Option.bind_some]
    rw [if_pos (by rw [s2, s4]; omega), if_pos (by rw [ByteArray.size_append, s2, s4]; omega)]
    exact Ev.now _
  unfold glossatorref3_Frame.f
  cases del with
  | true =>
    simp only [if_true]
    refine Ev.bind (Ev.now _) ?_
    exact Ev.pos (by rw [s2]; omega) (Ev.pos (by rw [ByteArray.size_append, s2]; omega) (fin (pay key val true) (by omega)))
  | false =>
    simp only [Bool.false_eq_true, if_false]
    refine Ev.bind (Ev.now _) ?_
    exact Ev.pos (by rw [s2]; omega) (Ev.pos (by rw [ByteArray.size_append, s2]; omega) (fin (pay key val false) (by omega)))
theorem frm_size (p : ByteArray) : (frm p).size = 6 + p.size := by
  have s2 : ∀ a b : Int, (strOfNums [a, b]).size = 2 := fun a b => nums_size _
  have s4 : ∀ a b c d : Int, (strOfNums [a, b, c, d]).size = 4 := fun a b c d => nums_size _
  unfold frm
  rw [ByteArray.size_append, ByteArray.size_append, s2, s4]
theorem empty_list : (⟨#[]⟩ : ByteArray).toList = ([] : List UInt8) := by decide +kernel
theorem chk_zero {key val : ByteArray} {del : Bool} (h : chk key val del = 0) : key.size ≤ 60 ∧ val.size ≤ 3000 := by
  unfold chk at h
  repeat' split at h
  all_goals first | (simp at h; done) | omega
theorem bytes2 (q : ByteArray) (h : 2 ≤ q.size) : strOfNums [bt q 0, bt q 1] = q.extract 0 2 := by
  have e0 : bt q 0 = ((q[0]'(by omega)).toNat : Int) := (bt_at q 0 (by simp; omega)).symm
  have e1 : bt q 1 = ((q[1]'(by omega)).toNat : Int) := (bt_at q 1 (by simp; omega)).symm
  rw [e0, e1]
  apply ByteArray.ext
  apply Array.ext
  · have : (strOfNums [((q[0]'(by omega)).toNat : Int), ((q[1]'(by omega)).toNat : Int)]).size = 2 := nums_size _
    show (strOfNums _).size = (q.extract 0 2).size
    rw [this, ByteArray.size_extract]
    omega
  · intro i h1 h2
    have hi : i < 2 := by
      have : (strOfNums [((q[0]'(by omega)).toNat : Int), ((q[1]'(by omega)).toNat : Int)]).size = 2 := nums_size _
      exact this ▸ h1
    rcases (show i = 0 ∨ i = 1 by omega) with rfl | rfl
    · simp [strOfNums, ByteArray.data_extract]
      rfl
    · simp [strOfNums, ByteArray.data_extract]
      rfl
theorem cut3 (q : ByteArray) (m : Nat) (hm : 6 ≤ m) : q.extract 0 m = q.extract 0 2 ++ q.extract 2 6 ++ q.extract 6 m := by
  apply ByteArray.ext
  simp only [ByteArray.data_append, ByteArray.data_extract, Array.extract_append_extract]
  rw [show min 0 2 = 0 by omega, show max 2 6 = 6 by omega, Array.extract_append_extract, show min 0 6 = 0 by omega, show max 6 m = m by omega]
theorem frm_eq (q : ByteArray) (n : Nat) (hn : bt q 0 * 256 + bt q 1 = (n : Int)) (hq : 6 + n ≤ q.size) : (frm (q.extract 6 (6 + n))).toList = (q.extract 0 (6 + n)).toList ↔ num4 (cks (q.extract 0 2 ++ q.extract 6 (6 + n))) = q.extract 2 6 := by
  have hp : (q.extract 6 (6 + n)).size = n := by rw [ByteArray.size_extract]; omega
  have i0 := bt_in q 0
  have i1 := bt_in q 1
  have h2 : strOfNums [((n : Int) / 256) % 256, (n : Int) % 256] = q.extract 0 2 := by
    rw [← bytes2 q (by omega)]
    congr 2
    · omega
    · congr 1
      omega
  rw [bytes_iff]
  unfold frm
  rw [hp, h2, cut3 q (6 + n) (by omega)]
  show q.extract 0 2 ++ num4 _ ++ _ = _ ↔ _
  constructor
  · intro h
    rw [ByteArray.append_assoc, ByteArray.append_assoc] at h
    have h3 := congrArg (fun b : ByteArray => b.data) h
    simp only [ByteArray.data_append, Array.append_right_inj, Array.append_left_inj] at h3
    exact ByteArray.ext h3
  · intro h
    rw [h]
theorem parse_ev (p : ByteArray) (hp : p.size ≤ 1000000) : Ev (fun k => journal_parse.f k p) (if (p.size : Int) < 2 ∨ bt p 0 > 1 ∨ (p.size : Int) < 2 + bt p 1 then ((⟨#[]⟩ : ByteArray), (⟨#[]⟩ : ByteArray), false, false) else (p.extract 2 (2 + bt p 1).toNat, p.extract (2 + bt p 1).toNat p.size, (bt p 0 == 1), (chk (p.extract 2 (2 + bt p 1).toNat) (p.extract (2 + bt p 1).toNat p.size) (bt p 0 == 1) == 0))) := by
  have i0 := bt_in p 0
  have i1 := bt_in p 1
  have e : wrap64 (2 + wrap64 (bt p 1)) = 2 + bt p 1 := by rw [wrap_id (n := bt p 1) (by omega) (by omega), wrap_id (by omega) (by omega)]
  unfold journal_parse.f
  rw [e]
  by_cases c1 : (p.size : Int) < 2
  · rw [if_pos (.inl c1)]
    exact Ev.pos c1 (Ev.now _)
  refine Ev.neg c1 (Ev.pos (by omega) ?_)
  by_cases c2 : bt p 0 > 1
  · rw [if_pos (.inr (.inl c2))]
    exact Ev.pos c2 (Ev.now _)
  refine Ev.neg c2 (Ev.pos (by omega) ?_)
  by_cases c3 : (p.size : Int) < 2 + bt p 1
  · rw [if_pos (.inr (.inr c3))]
    exact Ev.pos c3 (Ev.now _)
  rw [if_neg (fun h => h.elim c1 (fun h => h.elim c2 c3))]
  exact Ev.neg c3 (Ev.pos (by omega) (Ev.pos (by omega) (Ev.pos (by omega) (Ev.bind (validate_ev _ _ _) (Ev.now _)))))
def nextR (q : ByteArray) : ByteArray × ByteArray × Bool × Int × Int := match rjStep q with | .inl e => ((⟨#[]⟩ : ByteArray), (⟨#[]⟩ : ByteArray), false, 0, e) | .inr (r, m) => (r.f0, r.f1, r.f2, (m : Int), 0)
theorem next_ev (q : ByteArray) (hq : q.size ≤ 1000000) : Ev (fun k => journal_next.f k q) (nextR q) := by
  have i0 := bt_in q 0
  have i1 := bt_in q 1
  unfold journal_next.f nextR rjStep
  by_cases c1 : q.size < 6
  · rw [if_pos c1]
    exact Ev.pos (by omega) (Ev.now _)
  rw [if_neg c1]
  refine Ev.neg (by omega) (Ev.pos (by omega) (Ev.pos (by omega) ?_))
  obtain ⟨n, hn⟩ : ∃ n : Nat, bt q 0 * 256 + bt q 1 = (n : Int) := ⟨(bt q 0 * 256 + bt q 1).toNat, by omega⟩
  have e : wrap64 (wrap64 (6 + wrap64 (wrap64 (bt q 0) * 256)) + wrap64 (bt q 1)) = ((6 + n : Nat) : Int) := by
    rw [wrap_id (n := bt q 0) (by omega) (by omega), wrap_id (n := bt q 1) (by omega) (by omega), wrap_id (n := bt q 0 * 256) (by omega) (by omega), wrap_id (n := 6 + bt q 0 * 256) (by omega) (by omega), wrap_id (by omega) (by omega)]
    omega
  rw [e, hn]
  have e6 : (6 + (n : Int)).toNat = 6 + n := by omega
  rw [e6, Int.toNat_natCast]
  by_cases c2 : (q.size : Int) < 6 + (n : Int)
  · rw [if_pos c2]
    exact Ev.pos (by omega) (Ev.now _)
  rw [if_neg c2]
  refine Ev.neg (by omega) (Ev.pos (by omega) (Ev.pos (by omega) ?_))
  have hp : (q.extract 6 (6 + n)).size = n := by rw [ByteArray.size_extract]; omega
  have hfe := frm_eq q n hn (by omega)
  obtain ⟨p, hpq⟩ : ∃ p, q.extract 6 (6 + n) = p := ⟨_, rfl⟩
  rw [hpq] at hp hfe ⊢
  refine Ev.bind (frame_ev p (by omega)) (Ev.pos (by omega) ?_)
  simp only
  by_cases c3 : num4 (cks (q.extract 0 2 ++ p)) = q.extract 2 6
  · rw [if_neg (fun h => h c3)]
    refine Ev.pos (hfe.2 c3) ?_
    refine Ev.bind (parse_ev p (by omega)) ?_
    by_cases c4 : (p.size : Int) < 2 ∨ bt p 0 > 1 ∨ (p.size : Int) < 2 + bt p 1
    · have hc : (n : Int) < 2 ∨ (n : Int) < 2 + bt p 1 ∨ bt p 0 > 1 := by rw [hp] at c4; omega
      rw [if_pos c4, if_pos hc]
      exact Ev.neg (by simp) (Ev.now _)
    · have hc : ¬ ((n : Int) < 2 ∨ (n : Int) < 2 + bt p 1 ∨ bt p 0 > 1) := by rw [hp] at c4; omega
      rw [if_neg c4, if_neg hc]
      by_cases c5 : chk (p.extract 2 (2 + bt p 1).toNat) (p.extract (2 + bt p 1).toNat p.size) (bt p 0 == 1) = 0
      · refine Ev.pos (by simpa using c5) ?_
        rw [if_neg (fun h => h c5)]
        exact Ev.now _
      · refine Ev.neg (by simpa using c5) ?_
        rw [if_pos c5]
        exact Ev.now _
  · rw [if_pos c3]
    exact Ev.neg (fun h => c3 (hfe.1 h)) (Ev.now _)
/-! The scan -/
theorem scan_ev (a : ByteArray) (ha : a.size ≤ 100000) : ∀ (d : Nat) (rs : List S26) (s : Nat), s ≤ a.size → a.size + 1 ≤ d + s → rs.length ≤ s → Ev (fun k => journal_scan.l0 k a rs (s : Int)) ((rjGo a d rs s).1, ((rjGo a d rs s).2.1 : Int), (rjGo a d rs s).2.2)
  | 0, rs, s, hs, hd, hl => by omega
  | d + 1, rs, s, hs, hd, hl => by
    have hqs : (a.extract s a.size).size = a.size - s := by rw [ByteArray.size_extract]; omega
    have hn := next_ev (a.extract s a.size) (by omega)
    refine Ev.stepK (f := fun k => (journal_next.f k (a.extract s a.size)).bind fun bt121 => (if bt121.2.2.2.1 = 0 then (some (rs, (s : Int), bt121.2.2.2.2)) else (if rs.length < 3518437208883 then (journal_scan.l0 k a (rs ++ [(⟨bt121.1, bt121.2.1, bt121.2.2.1⟩ : S26)]) (wrap64 ((s : Int) + bt121.2.2.2.1))) else (none)))) (Ev.bind hn ?_) (fun k => by simp only [journal_scan.l0]; rw [if_pos (by omega), if_pos (by omega), Int.toNat_natCast])
    rw [rjGo]
    unfold nextR
    cases e : rjStep (a.extract s a.size) with
    | inl c => exact Ev.pos rfl (Ev.now _)
    | inr rm =>
      obtain ⟨r, m⟩ := rm
      have hm := rjStep_in e
      have ih := scan_ev a ha d (rs ++ [r]) (s + m) (by omega) (by omega) (by simp; omega)
      refine Ev.neg (by show ¬ ((m : Int) = 0); omega) (Ev.pos (by omega) ?_)
      refine Ev.same ih (fun k => ?_)
      show journal_scan.l0 k a (rs ++ [r]) (wrap64 ((s : Int) + (m : Int))) = _
      rw [wrap_id (by omega) (by omega)]
      rfl
theorem read_ev (a : ByteArray) (ha : a.size ≤ 100000) : Ev (fun k => journal_scan.f k a) ((readR a).1, ((readR a).2.1 : Int), (readR a).2.2) := scan_ev a ha (a.size + 1) [] 0 (Nat.zero_le _) (by omega) (Nat.zero_le _)
/-- What is read. -/
theorem go_in (a : ByteArray) : ∀ (d : Nat) (rs : List S26) (s : Nat), s ≤ a.size → rs.length ≤ s → (∀ r ∈ rs, chk r.f0 r.f1 r.f2 = 0) →
    (rjGo a d rs s).2.1 ≤ a.size ∧ (rjGo a d rs s).1.length ≤ a.size ∧ (∀ r ∈ (rjGo a d rs s).1, chk r.f0 r.f1 r.f2 = 0)
  | 0, rs, s, hs, hl, hr => ⟨hs, Nat.le_trans hl hs, hr⟩
  | d + 1, rs, s, hs, hl, hr => by
    rw [rjGo]
    cases e : rjStep (a.extract s a.size) with
    | inl c => exact ⟨hs, Nat.le_trans hl hs, hr⟩
    | inr rm =>
      obtain ⟨r, m⟩ := rm
      have hm := rjStep_in e
      rw [ByteArray.size_extract] at hm
      refine go_in a d (rs ++ [r]) (s + m) (by omega) (by simp; omega) (fun x hx => ?_)
      rcases List.mem_append.1 hx with h | h
      · exact hr x h
      · obtain rfl := List.mem_singleton.1 h
        unfold rjStep at e
        split at e
        · cases e
        · split at e
          · cases e
          · simp only at e
            split at e
            · cases e
            · split at e
              · cases e
              · split at e
                · cases e
                · next hc =>
                  injection e with e
                  injection e with e _
                  subst e
                  simpa using hc
theorem read_in (a : ByteArray) : (readR a).2.1 ≤ a.size ∧ (readR a).1.length ≤ a.size ∧ (∀ r ∈ (readR a).1, chk r.f0 r.f1 r.f2 = 0) := go_in a (a.size + 1) [] 0 (Nat.zero_le _) (Nat.zero_le _) (fun r h => by cases h)
theorem example_ev : Ev (fun k => glossatorlaw3_journalExample.f k) true := Ev.of (k := 60) (fun k => glossatorlaw3_journalExample.mono k) (by decide +kernel)
/-- What is written. -/
def catF (l : List S26) : ByteArray := l.foldl (fun x r => x ++ frm (pay r.f0 r.f1 r.f2)) ByteArray.empty
theorem catF_snoc (l : List S26) (r : S26) : catF (l ++ [r]) = catF l ++ frm (pay r.f0 r.f1 r.f2) := by
  unfold catF
  rw [List.foldl_append]
  rfl
theorem catF_size (l : List S26) (h : ∀ r ∈ l, chk r.f0 r.f1 r.f2 = 0) : (catF l).size ≤ 4000 * l.length := by
  revert h
  refine snoc_ind (P := fun l => (∀ r ∈ l, chk r.f0 r.f1 r.f2 = 0) → (catF l).size ≤ 4000 * l.length) (fun _ => Nat.zero_le _) (fun l r ih h => ?_) l
  have h1 := ih (fun x hx => h x (List.mem_append.2 (.inl hx)))
  have h2 := chk_zero (h r (by simp))
  rw [catF_snoc, ByteArray.size_append, frm_size, pay_size]
  simp
  omega
theorem compact_l0 (l : List S26) (hl : l.length ≤ 100000) (hc : ∀ r ∈ l, chk r.f0 r.f1 r.f2 = 0) : ∀ (t : List S26) (i : Nat), l.drop i = t → Ev (fun k => journal_Compact.l0 k (catF (l.take i)) l (l.length : Int) (i : Int)) (catF l, 0)
  | [], i, h => by
    have hi : l.length ≤ i := by simpa using h
    rw [List.take_of_length_le hi]
    exact Ev.some' (fun k => by simp only [journal_Compact.l0]; rw [if_neg (by omega)])
  | x :: t, i, h => by
    obtain ⟨h1, h2, h3, h4⟩ := dropJ h
    have hrd : rd_T26 l (i : Int) = x := h3 z26
    have ih := compact_l0 l hl hc t (i + 1) h2
    have hx : x ∈ l := List.mem_of_mem_drop (i := i) (by rw [h]; exact List.mem_cons_self)
    have hz := chk_zero (hc x hx)
    have hs := catF_size (l.take i) (fun r hr => hc r (List.mem_of_mem_take hr))
    have hli : (l.take i).length ≤ 100000 := by rw [List.length_take]; omega
    have hp := pay_size x.f0 x.f1 x.f2
    have hf := frm_size (pay x.f0 x.f1 x.f2)
    refine Ev.stepK (f := fun k => (journal_payload.f x.f0 x.f1 x.f2).bind fun t183 => ((journal_frame.f k t183).bind fun t184 => (if (catF (l.take i)).size + t184.size ≤ 9223372036854775807 then (journal_Compact.l0 k ((catF (l.take i)) ++ t184) l (l.length : Int) (wrap64 ((i : Int) + 1))) else (none)))) ?_ (fun k => by simp only [journal_Compact.l0]; rw [if_pos (by omega), if_pos (by omega), if_pos (by omega), hrd])
    rw [payload_is _ _ _ (by omega) (by omega)]
    simp only [Option.bind_some]
    refine Ev.bind (frame_ev _ (by omega)) (Ev.pos (by omega) ?_)
    rw [wrap_id (by omega) (by omega)]
    rw [h4, catF_snoc] at ih
    exact ih
theorem frames_l0 (Q L : List S26) (hL : L.length ≤ 100000) (n : Int) (X : ByteArray) (l : List S26) (hl : l.length ≤ 100000) (hX : X = catF l) (hc : ∀ r ∈ l, chk r.f0 r.f1 r.f2 = 0) : ∀ (t : List S26) (i : Nat), l.drop i = t → Ev (fun k => glossatorlaw3_JournalRead.l0 k L n L n X 0 (catF (l.take i)) l (l.length : Int) (i : Int)) true
  | [], i, h => by
    have hi : l.length ≤ i := by simpa using h
    rw [List.take_of_length_le hi]
    refine Ev.stepK (f := fun k => (glossatorlaw3_journalExample.f k).bind fun t244 => (if t244 = true then ((api_QRecord.f k L L).bind fun t245 => (if t245 = true then (if n = n then (if (0 : Int) = 0 then (some (X.toList == (catF l).toList)) else (some false)) else (some false)) else (some false))) else (some false))) ?_ (fun k => by simp only [glossatorlaw3_JournalRead.l0]; rw [if_neg (by omega)])
    refine Ev.bind example_ev (Ev.pos rfl (Ev.bind (eqJ L (by omega)) (Ev.pos rfl (Ev.pos rfl (Ev.pos rfl ?_)))))
    rw [hX]
    exact Ev.some' (fun k => by simp)
  | x :: t, i, h => by
    obtain ⟨h1, h2, h3, h4⟩ := dropJ h
    have hrd : rd_T26 l (i : Int) = x := h3 z26
    have ih := frames_l0 Q L hL n X l hl hX hc t (i + 1) h2
    have hx : x ∈ l := List.mem_of_mem_drop (i := i) (by rw [h]; exact List.mem_cons_self)
    have hz := chk_zero (hc x hx)
    have hs := catF_size (l.take i) (fun r hr => hc r (List.mem_of_mem_take hr))
    have hli : (l.take i).length ≤ 100000 := by rw [List.length_take]; omega
    have hp := pay_size x.f0 x.f1 x.f2
    have hf := frm_size (pay x.f0 x.f1 x.f2)
    refine Ev.stepK (f := fun k => (glossatorref3_Frame.f k x.f0 x.f1 x.f2).bind fun t243 => (if (catF (l.take i)).size + t243.size ≤ 9223372036854775807 then (glossatorlaw3_JournalRead.l0 k L n L n X 0 ((catF (l.take i)) ++ t243) l (l.length : Int) (wrap64 ((i : Int) + 1))) else (none))) ?_ (fun k => by simp only [glossatorlaw3_JournalRead.l0]; rw [if_pos (by omega), if_pos (by omega), if_pos (by omega), hrd])
    refine Ev.bind (Frame_ev _ _ _ (by omega) (by omega)) (Ev.pos (by omega) ?_)
    rw [wrap_id (by omega) (by omega)]
    rw [h4, catF_snoc] at ih
    exact ih
theorem j0_ev (a : ByteArray) (L : List S26) (m : Nat) (E : Int) (ha : a.size ≤ 3000) (hL : L.length ≤ 100000) (i3 : ∀ r ∈ L, chk r.f0 r.f1 r.f2 = 0) (u : List S26) (v : Int) (hu : (u, v, E) = if E = 0 then (L, (m : Int), (0 : Int)) else (([] : List S26), (0 : Int), E)) (hread : Ev (fun k => journal_Read.f k a) (u, v, E)) : Ev (fun k => glossatorlaw3_JournalRead.j0 k a u v L (m : Int) E false) true := by
  refine Ev.stepK (f := fun k => (journal_Compact.f k a).bind fun bt235 => (if E = 0 then ((glossatorref3_State.f k L).bind fun t238 => (glossatorlaw3_JournalRead.l0 k u v L (m : Int) bt235.1 bt235.2 (⟨#[]⟩ : ByteArray) t238 (t238.length : Int) 0)) else ((glossatorlaw3_journalExample.f k).bind fun t237 => (if t237 = true then (if (u.length : Int) = 0 then (if v = 0 then (if bt235.2 = E then (some (bt235.1.toList == ([] : List UInt8))) else (some false)) else (some false)) else (some false)) else (some false))))) ?_ (fun k => by simp only [glossatorlaw3_JournalRead.j0]; rw [if_neg (by simp)])
  by_cases c : E = 0
  · rw [if_pos c] at hu
    injection hu with e1 e2
    injection e2 with e2 _
    subst e1
    subst e2
    have hsl := stateR_len u
    have hsc : ∀ r ∈ stateR u, chk r.f0 r.f1 r.f2 = 0 := fun r hr => i3 r (lastR_key (mem_stateR.1 hr).2).2
    have hco : Ev (fun k => journal_Compact.f k a) (catF (stateR u), 0) := by
      unfold journal_Compact.f
      refine Ev.bind hread (Ev.pos c ?_)
      unfold journal_State.f
      rw [if_pos (by show u.length < 1000000; omega)]
      exact compact_l0 _ (by omega) hsc _ 0 rfl
    refine Ev.bind hco (Ev.pos c (Ev.bind (state_ev _ (by omega)) ?_))
    exact frames_l0 [] _ (by omega) _ _ _ (by omega) rfl hsc _ 0 rfl
  · rw [if_neg c] at hu
    injection hu with e1 e2
    injection e2 with e2 _
    subst e1
    subst e2
    have hco : Ev (fun k => journal_Compact.f k a) ((⟨#[]⟩ : ByteArray), E) := by
      unfold journal_Compact.f
      exact Ev.bind hread (Ev.neg c (Ev.now _))
    refine Ev.bind hco (Ev.neg c (Ev.bind example_ev (Ev.pos rfl (Ev.pos rfl (Ev.pos rfl (Ev.pos rfl ?_))))))
    exact Ev.some' (fun k => by rw [empty_list]; rfl)
theorem whole (a : ByteArray) : a.extract 0 a.size = a := ByteArray.extract_zero_size
theorem recover_ev (a : ByteArray) (ha : a.size ≤ 3000) : Ev (fun k => journal_Recover.f k a) (a.extract 0 (readR a).2.1, (readR a).1) := by
  obtain ⟨i1, i2, i3⟩ := read_in a
  have hm : mn (a.size : Int) 40000 = (a.size : Int) := by unfold mn; split <;> omega
  unfold journal_Recover.f
  rw [hm, Int.toNat_natCast, whole]
  refine Ev.pos (by omega) (Ev.pos (by omega) (Ev.bind (read_ev a (by omega)) (Ev.pos (by show (0 : Int) ≤ ((readR a).2.1 : Int); omega) (Ev.pos (by show ((readR a).2.1 : Int) ≤ (a.size : Int); omega) ?_))))
  exact Ev.now _
theorem JournalRead : glossatorlaw3_JournalRead.PureR := by
  intro a0 h0
  refine Ev.rounds ?_
  unfold glossatorlaw3_JournalRead.f
  refine Ev.bind example_ev (Ev.pos rfl ?_)
  by_cases c0 : (a0.size : Int) > 40000
  · have hread : Ev (fun k => journal_Read.f k a0) (([] : List S26), 0, 2) := by
      unfold journal_Read.f
      exact Ev.pos c0 (Ev.now _)
    have hco : Ev (fun k => journal_Compact.f k a0) ((⟨#[]⟩ : ByteArray), 2) := by
      unfold journal_Compact.f
      exact Ev.bind hread (Ev.neg (by decide) (Ev.now _))
    refine Ev.pos c0 (Ev.bind hread (Ev.bind hco (Ev.bind example_ev (Ev.pos rfl (Ev.pos rfl ?_)))))
    exact Ev.now _
  · obtain ⟨n, hn, hn1, hn2⟩ : ∃ n : Nat, mn (a0.size : Int) 3000 = (n : Int) ∧ n ≤ a0.size ∧ n ≤ 3000 := by
      refine ⟨(mn (a0.size : Int) 3000).toNat, ?_, ?_, ?_⟩ <;> unfold mn <;> split <;> omega
    rw [hn, Int.toNat_natCast]
    refine Ev.neg c0 (Ev.pos (by omega) (Ev.pos (by omega) ?_))
    obtain ⟨a, ha⟩ : ∃ a, a0.extract 0 n = a := ⟨_, rfl⟩
    have has : a.size ≤ 3000 := by rw [← ha, ByteArray.size_extract]; omega
    rw [ha]
    obtain ⟨i1, i2, i3⟩ := read_in a
    obtain ⟨u, v, huv⟩ : ∃ u v, (u, v, (readR a).2.2) = if (readR a).2.2 = 0 then ((readR a).1, ((readR a).2.1 : Int), (0 : Int)) else (([] : List S26), (0 : Int), (readR a).2.2) := by
      by_cases c : (readR a).2.2 = 0
      · exact ⟨_, _, by rw [if_pos c, c]⟩
      · exact ⟨_, _, by rw [if_neg c]⟩
    have hread : Ev (fun k => journal_Read.f k a) (u, v, (readR a).2.2) := by
      unfold journal_Read.f
      rw [huv]
      refine Ev.neg (by omega) (Ev.bind (read_ev a (by omega)) ?_)
      by_cases c : (readR a).2.2 = 0
      · refine Ev.pos c ?_
        rw [if_pos c]
        exact Ev.now _
      · refine Ev.neg c ?_
        rw [if_neg c]
        exact Ev.now _
    refine Ev.bind hread ?_
    unfold glossatorref3_ReadJournal.f
    rw [if_pos (by omega)]
    simp only [Option.bind_some]
    refine Ev.bind (recover_ev a has) (Ev.pos (by omega) (Ev.pos (by omega) (Ev.pos rfl (Ev.bind (eqJ _ (by show (readR a).1.length ≤ _; omega)) (Ev.pos rfl ?_)))))
    have hj := j0_ev a (readR a).1 (readR a).2.1 (readR a).2.2 has (by omega) i3 u v huv hread
    have hb : ((readR a).2.2 != (readR a).2.2) = false := by simp
    show Ev (fun k => glossatorlaw3_JournalRead.j0 k a u v (readR a).1 ((readR a).2.1 : Int) (readR a).2.2 ((readR a).2.2 != (readR a).2.2)) true
    rw [hb]
    exact hj
end Go.Proofs.Ytcikmpcacakfbaa.Pr
