-- Written by gen.py (this repo's wip/), which runs the kit's print.py with more arms. Lean checks it.
import Derived.Test.YtpkdgdhfhgelbaaQFuzzyScoreEqualsReferencex0
import Derived.Test.YtpkdgdhfhgelbaaQFuzzyScoreEqualsReferencex1
import Derived.Test.YtpkdgdhfhgelbaaQFuzzyScoreEqualsReferencex2
namespace Go.Proofs.Ytpkdgdhfhgelbaa.QFuzzyScoreEqualsReference
open Go.RowKit Go.Proofs.YtpkdgdhfhgelbaaW.PrintWords Go.Proofs.YtpkdgdhfhgelbaaW.PrintLast Go.Proofs.YtpkdgdhfhgelbaaW.PrintMore
attribute [local go_sem] max2_int min2_int max_two min_two max_three min_three max_four min_four   -- for this text's walks alone
set_option linter.unusedVariables false
set_option linter.unusedSimpArgs false

section
open Go.Lib Go.Shelf Go.Proofs.Ytpkdgdhfhgelbaa.Hand Go.Proofs.Ytpkdgdhfhgelbaa.Aid
def cmpS (a b : ByteArray) : Int := compareBytes a.data.toList b.data.toList
theorem cmpStr_run (a b : ByteArray) (w : World) : (callFunc 34 #[.string a, .string b]).run Try.prog w = .ok (.value (.int .i64 (cmpS a b))) w := by
  rw [run_callFunc_extern Try.func34 (by kernel_rfl) (by kernel_rfl) (by kernel_rfl) (e := Extern.BytealgCompare.compare) (by kernel_rfl), run_compareString]
  rfl
set_option maxRecDepth 100000 in
set_option maxHeartbeats 4000000 in
theorem cmpString_calls (a b : ByteArray) (w : World) : Calls Try.prog 28 #[.string a, .string b] w fun e w' => e = .returned (.int .i64 (cmpS a b)) ∧ Drawn0 w w' := by
  have hr := cmpStr_run a b w
  go_enter Try.func28, Try.ntmps28
  go_wp2
  go_ret
  exact ⟨rfl, Drawn0.refl _⟩
set_option maxRecDepth 100000 in
set_option maxHeartbeats 4000000 in
theorem strCompare_calls (a b : ByteArray) (w : World) : Calls Try.prog 20 #[.string a, .string b] w fun e w' => e = .returned (.int .i64 (cmpS a b)) ∧ Drawn0 w w' := by
  go_enter Try.func20, Try.ntmps20
  go_wp2_with (first | (go_at_call 28; refine (cmpString_calls a b _).mono ?_; rintro e w2 ⟨rfl, hd2⟩; have HD2 := Aside0.mk hd2; clear hd2))
  go_ret
  exact ⟨rfl, HD2.out⟩
def cmpI (x y : Int) : Int := if x < y then -1 else if x > y then 1 else 0
theorem cmpI_eq (x y : Int) : cmp_Compare_int.f x y = some (cmpI x y) := by
  unfold cmp_Compare_int.f cmp_isNaN.f cmpI
  simp
  split
  · rfl
  · split <;> rfl
def orI : List Int → Int
  | [] => 0
  | x :: t => if x = 0 then orI t else x
theorem or_l0 (xs : List Int) (hx : xs.length < 1000) : ∀ (t : List Int) (i : Nat), xs.drop i = t → Ev (fun k => cmp_Or_int.l0 k 0 xs (xs.length : Int) (i : Int)) (orI t)
  | [], i, h => by
    have hi : xs.length ≤ i := by simpa using h
    exact Ev.some' (fun k => by simp only [cmp_Or_int.l0]; rw [if_neg (by omega)]; rfl)
  | x :: t, i, h => by
    have hil : i < xs.length := by
      rcases Nat.lt_or_ge i xs.length with h3 | h3
      · exact h3
      · rw [List.drop_eq_nil_of_le h3] at h; cases h
    have hc := h
    rw [List.drop_eq_getElem_cons hil] at hc
    injection hc with hc1 hc2
    have hxe : rd xs (i : Int) = x := by unfold rd; rw [Int.toNat_natCast, List.getD_eq_getElem?_getD, List.getElem?_eq_getElem hil]; exact hc1
    by_cases c : x = 0
    · refine Ev.stepK (f := fun k => cmp_Or_int.l0 k 0 xs (xs.length : Int) ((i + 1 : Nat) : Int)) ?_ (fun k => ?_)
      · have := or_l0 xs hx t (i + 1) hc2
        unfold orI
        rw [if_pos c]
        exact this
      · simp only [cmp_Or_int.l0]
        rw [if_pos (by omega), if_pos (by omega), if_pos (by omega), hxe, if_pos c, wrap_id (by omega) (by omega)]
        rfl
    · refine Ev.some' (fun k => ?_)
      simp only [cmp_Or_int.l0]
      rw [if_pos (by omega), if_pos (by omega), if_pos (by omega), hxe, if_neg c]
      unfold orI
      rw [if_neg c]
theorem or_ev (xs : List Int) (hx : xs.length < 1000) : ∃ k, cmp_Or_int.f k xs = some (orI xs) := Ev.rounds (Ev.same (or_l0 xs hx xs 0 rfl) (fun k => rfl))
/-- What Rank's closure reads: the scores, the names. -/
structure RankC (s2 sb s3 : Nat) (sc : List Int) (names : List ByteArray) (X : World) : Prop where
  b2 : X.heap[s2]? = some (.cells #[.slice (some ⟨sb, 0, none⟩) sc.length sc.length] 23 (0, 0))
  bs : X.heap[sb]? = some (.cells (ints sc) 3 (0, 0))
  b3 : ∃ A c, X.heap[s3]? = some (.cells #[.slice A names.length c] 29 (0, 0)) ∧ Kd.C Kd.string X A names.length names
  len : sc.length = names.length
theorem RankC.below {s2 sb s3 : Nat} {sc : List Int} {names : List ByteArray} {X X' : World} (h : RankC s2 sb s3 sc names X) (hb : Below X.heap.size X X') : RankC s2 sb s3 sc names X' := by
  obtain ⟨A, c, h1, h2⟩ := h.b3
  exact ⟨(hb.block _ (lt_of_blk h.b2)).trans h.b2, (hb.block _ (lt_of_blk h.bs)).trans h.bs, ⟨A, c, (hb.block _ (lt_of_blk h1)).trans h1, Kd.C_below h2 hb⟩, h.len⟩
def cmpR (sc : List Int) (names : List ByteArray) (a b : Int) : Int := orI [cmpI (rd sc b) (rd sc a), cmpI (((rdOf ByteArray.empty names a).size : Nat) : Int) (((rdOf ByteArray.empty names b).size : Nat) : Int), cmpS (rdOf ByteArray.empty names a) (rdOf ByteArray.empty names b)]
theorem ints_cell {X : World} {sb : Nat} {sc : List Int} (h : X.heap[sb]? = some (.cells (ints sc) 3 (0, 0))) (i : Nat) (hi : i < sc.length) : X.cell? ⟨sb, i, none⟩ = some (.int .i64 (rd sc (i : Int))) := by
  refine (cells_of_blk h i).trans ?_
  unfold ints rd
  rw [Int.toNat_natCast, List.getD_eq_getElem?_getD]
  simp [List.getElem?_eq_getElem hi]
theorem drawn_heap {X X' : World} (h : Drawn0 X X') : X'.heap = X.heap := by
  obtain ⟨n, rfl⟩ := h.out
  rfl
set_option maxRecDepth 100000 in
set_option maxHeartbeats 16000000 in
theorem clo17_calls (s2 sb s3 : Nat) (sc : List Int) (names : List ByteArray) (a b : Nat) (X : World) (hC : RankC s2 sb s3 sc names X) (ha : a < names.length) (hb : b < names.length) :
    Calls Try.prog 17 #[.int .i64 (a : Int), .int .i64 (b : Int), .pointer (some ⟨s2, 0, none⟩), .pointer (some ⟨s3, 0, none⟩)] X fun e X' => e = .returned (.int .i64 (cmpR sc names (a : Int) (b : Int))) ∧ Below X.heap.size X X' := by
  obtain ⟨A, c, h3, hN⟩ := hC.b3
  obtain ⟨ad, rfl, xa⟩ := Kd.at_string hN (a : Int) (by omega) (by omega)
  obtain ⟨ad', e', xb⟩ := Kd.at_string hN (b : Int) (by omega) (by omega)
  obtain rfl := Option.some.inj e'
  have ya := ints_cell hC.bs a (by rw [hC.len]; exact ha)
  have yb := ints_cell hC.bs b (by rw [hC.len]; exact hb)
  have y2 := cell_of_blk hC.b2
  have y3 := cell_of_blk h3
  rw [Int.toNat_natCast] at xa xb
  obtain ⟨na, hna⟩ : ∃ na, rdOf ByteArray.empty names (a : Int) = na := ⟨_, rfl⟩
  obtain ⟨nb, hnb⟩ : ∃ nb, rdOf ByteArray.empty names (b : Int) = nb := ⟨_, rfl⟩
  obtain ⟨va, hva⟩ : ∃ va, rd sc (a : Int) = va := ⟨_, rfl⟩
  obtain ⟨vb, hvb⟩ : ∃ vb, rd sc (b : Int) = vb := ⟨_, rfl⟩
  have HR := Aside0.mk (show cmpR sc names (a : Int) (b : Int) = orI [cmpI vb va, cmpI ((na.size : Nat) : Int) ((nb.size : Nat) : Int), cmpS na nb] by unfold cmpR; rw [hna, hnb, hva, hvb])
  rw [hna] at xa
  rw [hnb] at xb
  rw [hva] at ya
  rw [hvb] at yb
  have HS := Aside0.mk (show ∀ W : World, W.heap = X.heap → (W.cell? ⟨s2, 0, none⟩ = some (.slice (some ⟨sb, 0, none⟩) sc.length sc.length) ∧ W.cell? ⟨sb, a, none⟩ = some (.int .i64 va) ∧ W.cell? ⟨sb, b, none⟩ = some (.int .i64 vb) ∧ W.cell? ⟨s3, 0, none⟩ = some (.slice (some ad) names.length c) ∧ W.cell? (ad.add a) = some (.string na) ∧ W.cell? (ad.add b) = some (.string nb)) from fun W hW => by
    have hc : ∀ p, W.cell? p = X.cell? p := fun p => by unfold World.cell?; rw [hW]
    exact ⟨(hc _).trans y2, (hc _).trans ya, (hc _).trans yb, (hc _).trans y3, (hc _).trans xa, (hc _).trans xb⟩)
  have r0 := eq_true (show (0 : Int) ≤ (a : Int) by omega)
  have r1 := eq_true (show (0 : Int) ≤ (b : Int) by omega)
  have r2 := eq_true (show (a : Int) < (names.length : Int) by omega)
  have r3 := eq_true (show (b : Int) < (names.length : Int) by omega)
  have r4 := eq_true (show (a : Int) < (sc.length : Int) by have := hC.len; omega)
  have r5 := eq_true (show (b : Int) < (sc.length : Int) by have := hC.len; omega)
  have r6 := eq_true ha
  have r7 := eq_true hb
  have r8 := eq_true (show a < sc.length by have := hC.len; omega)
  have r9 := eq_true (show b < sc.length by have := hC.len; omega)
  clear hC h3 hN xa xb ya yb y2 y3 hna hnb hva hvb ha hb
  go_enter Try.func17, Try.ntmps17
  go_upto_region 1 with (fail)
  refine start_ (n := 32) (S := fun W => W.cell? ⟨s2, 0, none⟩ = some (.slice (some ⟨sb, 0, none⟩) sc.length sc.length) ∧ W.cell? ⟨sb, a, none⟩ = some (.int .i64 va) ∧ W.cell? ⟨sb, b, none⟩ = some (.int .i64 vb) ∧ W.cell? ⟨s3, 0, none⟩ = some (.slice (some ad) names.length c) ∧ W.cell? (ad.add a) = some (.string na) ∧ W.cell? (ad.add b) = some (.string nb)) (ds := [30]) #[false, false, false, false, false, false, false, false, false, false, false, false, false, false, false, false, false, false, false, false, false, false, false, false, false, false, false, false, false, false, false, false] (by kernel_rfl) rfl rfl (HS.out _ rfl) (fun hHeld => ?_)
  refine take_ (i := 0) (N := some 7) (v := ?_) (a' := ?_) #[true, false, false, false, false, false, false, false, false, false, false, false, false, false, false, false, false, false, false, false, false, false, false, false, false, false, false, false, false, false, false, false] rfl rfl (by kernel_rfl) (fun _ _ _ h => h) (Or.inl ⟨by rfl, ?_⟩) hHeld ?_ ?_
  rotate_left
  · rintro w' ⟨s0_, s1_, s2_, s3_, s4_, s5_⟩
    go_simp
    with_reducible rfl
  rotate_left
  · simp only [Act.put, List.setIfInBounds_toArray, List.set_cons_zero, List.set_cons_succ, i64_w, i32_w]
    rfl
  refine pure_ (i := 1) (N := some 8) (v := ?_) (a' := ?_) #[true, true, false, false, false, false, false, false, false, false, false, false, false, false, false, false, false, false, false, false, false, false, false, false, false, false, false, false, false, false, false, false] rfl rfl (by kernel_rfl) (fun _ _ _ h => h) (Or.inl ⟨by rfl, ?_⟩) ?_ ?_
  rotate_left
  · intro w'
    go_simp
    with_reducible rfl
  rotate_left
  · simp only [Act.put, List.setIfInBounds_toArray, List.set_cons_zero, List.set_cons_succ, i64_w, i32_w]
    rfl
  refine pure_ (i := 2) (N := some 9) (v := ?_) (a' := ?_) #[true, true, true, false, false, false, false, false, false, false, false, false, false, false, false, false, false, false, false, false, false, false, false, false, false, false, false, false, false, false, false, false] rfl rfl (by kernel_rfl) (fun _ _ _ h => h) (Or.inl ⟨by rfl, ?_⟩) ?_ ?_
  rotate_left
  · intro w'
    go_simp
    with_reducible rfl
  rotate_left
  · simp only [Act.put, List.setIfInBounds_toArray, List.set_cons_zero, List.set_cons_succ, i64_w, i32_w]
    rfl
  refine take_ (i := 3) (N := some 10) (v := ?_) (a' := ?_) #[true, true, true, true, false, false, false, false, false, false, false, false, false, false, false, false, false, false, false, false, false, false, false, false, false, false, false, false, false, false, false, false] rfl rfl (by kernel_rfl) (fun _ _ _ h => h) (Or.inl ⟨by rfl, ?_⟩) hHeld ?_ ?_
  rotate_left
  · rintro w' ⟨s0_, s1_, s2_, s3_, s4_, s5_⟩
    go_simp
    with_reducible rfl
  rotate_left
  · simp only [Act.put, List.setIfInBounds_toArray, List.set_cons_zero, List.set_cons_succ, i64_w, i32_w]
    rfl
  refine take_ (i := 4) (N := some 11) (v := ?_) (a' := ?_) #[true, true, true, true, true, false, false, false, false, false, false, false, false, false, false, false, false, false, false, false, false, false, false, false, false, false, false, false, false, false, false, false] rfl rfl (by kernel_rfl) (fun _ _ _ h => h) (Or.inl ⟨by rfl, ?_⟩) hHeld ?_ ?_
  rotate_left
  · rintro w' ⟨s0_, s1_, s2_, s3_, s4_, s5_⟩
    go_simp
    with_reducible rfl
  rotate_left
  · simp only [Act.put, List.setIfInBounds_toArray, List.set_cons_zero, List.set_cons_succ, i64_w, i32_w]
    rfl
  refine pure_ (i := 5) (N := some 12) (v := ?_) (a' := ?_) #[true, true, true, true, true, true, false, false, false, false, false, false, false, false, false, false, false, false, false, false, false, false, false, false, false, false, false, false, false, false, false, false] rfl rfl (by kernel_rfl) (fun _ _ _ h => h) (Or.inl ⟨by rfl, ?_⟩) ?_ ?_
  rotate_left
  · intro w'
    go_simp
    with_reducible rfl
  rotate_left
  · simp only [Act.put, List.setIfInBounds_toArray, List.set_cons_zero, List.set_cons_succ, i64_w, i32_w]
    rfl
  refine pure_ (i := 6) (N := some 13) (v := ?_) (a' := ?_) #[true, true, true, true, true, true, true, false, false, false, false, false, false, false, false, false, false, false, false, false, false, false, false, false, false, false, false, false, false, false, false, false] rfl rfl (by kernel_rfl) (fun _ _ _ h => h) (Or.inl ⟨by rfl, ?_⟩) ?_ ?_
  rotate_left
  · intro w'
    go_simp
    with_reducible rfl
  rotate_left
  · simp only [Act.put, List.setIfInBounds_toArray, List.set_cons_zero, List.set_cons_succ, i64_w, i32_w]
    rfl
  refine take_ (i := 7) (N := some 14) (v := ?_) (a' := ?_) #[true, true, true, true, true, true, true, true, false, false, false, false, false, false, false, false, false, false, false, false, false, false, false, false, false, false, false, false, false, false, false, false] rfl rfl (by kernel_rfl) (fun _ _ _ h => h) (Or.inl ⟨by rfl, ?_⟩) hHeld ?_ ?_
  rotate_left
  · rintro w' ⟨s0_, s1_, s2_, s3_, s4_, s5_⟩
    go_simp
    with_reducible rfl
  rotate_left
  · simp only [Act.put, List.setIfInBounds_toArray, List.set_cons_zero, List.set_cons_succ, i64_w, i32_w]
    rfl
  refine take_ (i := 9) (N := some 16) (v := ?_) (a' := ?_) #[true, true, true, true, true, true, true, true, false, true, false, false, false, false, false, false, false, false, false, false, false, false, false, false, false, false, false, false, false, false, false, false] rfl rfl (by kernel_rfl) (fun _ _ _ h => h) (Or.inl ⟨by rfl, ?_⟩) hHeld ?_ ?_
  rotate_left
  · rintro w' ⟨s0_, s1_, s2_, s3_, s4_, s5_⟩
    go_simp
    with_reducible rfl
  rotate_left
  · simp only [Act.put, List.setIfInBounds_toArray, List.set_cons_zero, List.set_cons_succ, i64_w, i32_w]
    rfl
  refine pure_ (i := 10) (N := some 17) (v := ?_) (a' := ?_) #[true, true, true, true, true, true, true, true, false, true, true, false, false, false, false, false, false, false, false, false, false, false, false, false, false, false, false, false, false, false, false, false] rfl rfl (by kernel_rfl) (fun _ _ _ h => h) (Or.inl ⟨by rfl, ?_⟩) ?_ ?_
  rotate_left
  · intro w'
    go_simp
    with_reducible rfl
  rotate_left
  · simp only [Act.put, List.setIfInBounds_toArray, List.set_cons_zero, List.set_cons_succ, i64_w, i32_w]
    rfl
  refine pure_ (i := 11) (N := some 18) (v := ?_) (a' := ?_) #[true, true, true, true, true, true, true, true, false, true, true, true, false, false, false, false, false, false, false, false, false, false, false, false, false, false, false, false, false, false, false, false] rfl rfl (by kernel_rfl) (fun _ _ _ h => h) (Or.inl ⟨by rfl, ?_⟩) ?_ ?_
  rotate_left
  · intro w'
    go_simp
    with_reducible rfl
  rotate_left
  · simp only [Act.put, List.setIfInBounds_toArray, List.set_cons_zero, List.set_cons_succ, i64_w, i32_w]
    rfl
  refine take_ (i := 12) (N := some 19) (v := ?_) (a' := ?_) #[true, true, true, true, true, true, true, true, false, true, true, true, true, false, false, false, false, false, false, false, false, false, false, false, false, false, false, false, false, false, false, false] rfl rfl (by kernel_rfl) (fun _ _ _ h => h) (Or.inl ⟨by rfl, ?_⟩) hHeld ?_ ?_
  rotate_left
  · rintro w' ⟨s0_, s1_, s2_, s3_, s4_, s5_⟩
    go_simp
    with_reducible rfl
  rotate_left
  · simp only [Act.put, List.setIfInBounds_toArray, List.set_cons_zero, List.set_cons_succ, i64_w, i32_w]
    rfl
  refine pure_ (i := 13) (N := some 20) (v := ?_) (a' := ?_) #[true, true, true, true, true, true, true, true, false, true, true, true, true, true, false, false, false, false, false, false, false, false, false, false, false, false, false, false, false, false, false, false] rfl rfl (by kernel_rfl) (fun _ _ _ h => h) (Or.inl ⟨by rfl, ?_⟩) ?_ ?_
  rotate_left
  · intro w'
    go_simp
    with_reducible rfl
  rotate_left
  · simp only [Act.put, List.setIfInBounds_toArray, List.set_cons_zero, List.set_cons_succ, i64_w, i32_w]
    rfl
  refine take_ (i := 14) (N := some 21) (v := ?_) (a' := ?_) #[true, true, true, true, true, true, true, true, false, true, true, true, true, true, true, false, false, false, false, false, false, false, false, false, false, false, false, false, false, false, false, false] rfl rfl (by kernel_rfl) (fun _ _ _ h => h) (Or.inl ⟨by rfl, ?_⟩) hHeld ?_ ?_
  rotate_left
  · rintro w' ⟨s0_, s1_, s2_, s3_, s4_, s5_⟩
    go_simp
    with_reducible rfl
  rotate_left
  · simp only [Act.put, List.setIfInBounds_toArray, List.set_cons_zero, List.set_cons_succ, i64_w, i32_w]
    rfl
  refine pure_ (i := 15) (N := some 22) (v := ?_) (a' := ?_) #[true, true, true, true, true, true, true, true, false, true, true, true, true, true, true, true, false, false, false, false, false, false, false, false, false, false, false, false, false, false, false, false] rfl rfl (by kernel_rfl) (fun _ _ _ h => h) (Or.inl ⟨by rfl, ?_⟩) ?_ ?_
  rotate_left
  · intro w'
    go_simp
    with_reducible rfl
  rotate_left
  · simp only [Act.put, List.setIfInBounds_toArray, List.set_cons_zero, List.set_cons_succ, i64_w, i32_w]
    rfl
  refine pure_ (i := 16) (N := some 23) (v := ?_) (a' := ?_) #[true, true, true, true, true, true, true, true, false, true, true, true, true, true, true, true, true, false, false, false, false, false, false, false, false, false, false, false, false, false, false, false] rfl rfl (by kernel_rfl) (fun _ _ _ h => h) (Or.inl ⟨by rfl, ?_⟩) ?_ ?_
  rotate_left
  · intro w'
    go_simp
    with_reducible rfl
  rotate_left
  · simp only [Act.put, List.setIfInBounds_toArray, List.set_cons_zero, List.set_cons_succ, i64_w, i32_w]
    rfl
  refine take_ (i := 17) (N := some 24) (v := ?_) (a' := ?_) #[true, true, true, true, true, true, true, true, false, true, true, true, true, true, true, true, true, true, false, false, false, false, false, false, false, false, false, false, false, false, false, false] rfl rfl (by kernel_rfl) (fun _ _ _ h => h) (Or.inl ⟨by rfl, ?_⟩) hHeld ?_ ?_
  rotate_left
  · rintro w' ⟨s0_, s1_, s2_, s3_, s4_, s5_⟩
    go_simp
    with_reducible rfl
  rotate_left
  · simp only [Act.put, List.setIfInBounds_toArray, List.set_cons_zero, List.set_cons_succ, i64_w, i32_w]
    rfl
  refine pure_ (i := 18) (N := some 25) (v := ?_) (a' := ?_) #[true, true, true, true, true, true, true, true, false, true, true, true, true, true, true, true, true, true, true, false, false, false, false, false, false, false, false, false, false, false, false, false] rfl rfl (by kernel_rfl) (fun _ _ _ h => h) (Or.inl ⟨by rfl, ?_⟩) ?_ ?_
  rotate_left
  · intro w'
    go_simp
    with_reducible rfl
  rotate_left
  · simp only [Act.put, List.setIfInBounds_toArray, List.set_cons_zero, List.set_cons_succ, i64_w, i32_w]
    rfl
  refine take_ (i := 20) (N := some 27) (v := ?_) (a' := ?_) #[true, true, true, true, true, true, true, true, false, true, true, true, true, true, true, true, true, true, true, false, true, false, false, false, false, false, false, false, false, false, false, false] rfl rfl (by kernel_rfl) (fun _ _ _ h => h) (Or.inl ⟨by rfl, ?_⟩) hHeld ?_ ?_
  rotate_left
  · rintro w' ⟨s0_, s1_, s2_, s3_, s4_, s5_⟩
    go_simp
    with_reducible rfl
  rotate_left
  · simp only [Act.put, List.setIfInBounds_toArray, List.set_cons_zero, List.set_cons_succ, i64_w, i32_w]
    rfl
  refine pure_ (i := 21) (N := some 28) (v := ?_) (a' := ?_) #[true, true, true, true, true, true, true, true, false, true, true, true, true, true, true, true, true, true, true, false, true, true, false, false, false, false, false, false, false, false, false, false] rfl rfl (by kernel_rfl) (fun _ _ _ h => h) (Or.inl ⟨by rfl, ?_⟩) ?_ ?_
  rotate_left
  · intro w'
    go_simp
    with_reducible rfl
  rotate_left
  · simp only [Act.put, List.setIfInBounds_toArray, List.set_cons_zero, List.set_cons_succ, i64_w, i32_w]
    rfl
  refine pure_ (i := 22) (N := some 29) (v := ?_) (a' := ?_) #[true, true, true, true, true, true, true, true, false, true, true, true, true, true, true, true, true, true, true, false, true, true, true, false, false, false, false, false, false, false, false, false] rfl rfl (by kernel_rfl) (fun _ _ _ h => h) (Or.inl ⟨by rfl, ?_⟩) ?_ ?_
  rotate_left
  · intro w'
    go_simp
    with_reducible rfl
  rotate_left
  · simp only [Act.put, List.setIfInBounds_toArray, List.set_cons_zero, List.set_cons_succ, i64_w, i32_w]
    rfl
  refine take_ (i := 23) (N := some 30) (v := ?_) (a' := ?_) #[true, true, true, true, true, true, true, true, false, true, true, true, true, true, true, true, true, true, true, false, true, true, true, true, false, false, false, false, false, false, false, false] rfl rfl (by kernel_rfl) (fun _ _ _ h => h) (Or.inl ⟨by rfl, ?_⟩) hHeld ?_ ?_
  rotate_left
  · rintro w' ⟨s0_, s1_, s2_, s3_, s4_, s5_⟩
    go_simp
    with_reducible rfl
  rotate_left
  · simp only [Act.put, List.setIfInBounds_toArray, List.set_cons_zero, List.set_cons_succ, i64_w, i32_w]
    rfl
  refine take_ (i := 24) (N := some 31) (v := ?_) (a' := ?_) #[true, true, true, true, true, true, true, true, false, true, true, true, true, true, true, true, true, true, true, false, true, true, true, true, true, false, false, false, false, false, false, false] rfl rfl (by kernel_rfl) (fun _ _ _ h => h) (Or.inl ⟨by rfl, ?_⟩) hHeld ?_ ?_
  rotate_left
  · rintro w' ⟨s0_, s1_, s2_, s3_, s4_, s5_⟩
    go_simp
    with_reducible rfl
  rotate_left
  · simp only [Act.put, List.setIfInBounds_toArray, List.set_cons_zero, List.set_cons_succ, i64_w, i32_w]
    rfl
  refine pure_ (i := 25) (N := some 32) (v := ?_) (a' := ?_) #[true, true, true, true, true, true, true, true, false, true, true, true, true, true, true, true, true, true, true, false, true, true, true, true, true, true, false, false, false, false, false, false] rfl rfl (by kernel_rfl) (fun _ _ _ h => h) (Or.inl ⟨by rfl, ?_⟩) ?_ ?_
  rotate_left
  · intro w'
    go_simp
    with_reducible rfl
  rotate_left
  · simp only [Act.put, List.setIfInBounds_toArray, List.set_cons_zero, List.set_cons_succ, i64_w, i32_w]
    rfl
  refine pure_ (i := 26) (N := some 33) (v := ?_) (a' := ?_) #[true, true, true, true, true, true, true, true, false, true, true, true, true, true, true, true, true, true, true, false, true, true, true, true, true, true, true, false, false, false, false, false] rfl rfl (by kernel_rfl) (fun _ _ _ h => h) (Or.inl ⟨by rfl, ?_⟩) ?_ ?_
  rotate_left
  · intro w'
    go_simp
    with_reducible rfl
  rotate_left
  · simp only [Act.put, List.setIfInBounds_toArray, List.set_cons_zero, List.set_cons_succ, i64_w, i32_w]
    rfl
  refine take_ (i := 27) (N := some 34) (v := ?_) (a' := ?_) #[true, true, true, true, true, true, true, true, false, true, true, true, true, true, true, true, true, true, true, false, true, true, true, true, true, true, true, true, false, false, false, false] rfl rfl (by kernel_rfl) (fun _ _ _ h => h) (Or.inl ⟨by rfl, ?_⟩) hHeld ?_ ?_
  rotate_left
  · rintro w' ⟨s0_, s1_, s2_, s3_, s4_, s5_⟩
    go_simp
    with_reducible rfl
  rotate_left
  · simp only [Act.put, List.setIfInBounds_toArray, List.set_cons_zero, List.set_cons_succ, i64_w, i32_w]
    rfl
  refine one_ (i := 8) (N := some 15) #[true, true, true, true, true, true, true, true, true, true, true, true, true, true, true, true, true, true, true, false, true, true, true, true, true, true, true, true, false, false, false, false] rfl rfl (by kernel_rfl) (by decide) (fun K hK => ?_)
  refine goes_ Try.func19 (by kernel_rfl) rfl #[.int .i64 vb, .int .i64 va] (by rfl) rfl rfl (by (try simp only [List.map_toArray, List.map_cons, List.map_nil]); first | done | rfl) ?_
  refine (cmp_Compare_int.calls vb va _ _ (cmpI_eq vb va)).mono ?_
  rintro e w3 ⟨rfl, hd3⟩
  refine ⟨_, rfl, ?_⟩
  have hh3 : w3.heap = X.heap := (drawn_heap hd3).trans rfl
  refine hK.out _ _ (HS.out _ hh3) (fun hHeld => ?_)
  clear hK K
  refine norm_ (a' := ?_) ?_ ?_
  rotate_left
  · show Act.put _ (some 15) _ = _
    simp only [Act.put, List.setIfInBounds_toArray, List.set_cons_zero, List.set_cons_succ, i64_w, i32_w]
    rfl
  refine one_ (i := 19) (N := some 26) #[true, true, true, true, true, true, true, true, true, true, true, true, true, true, true, true, true, true, true, true, true, true, true, true, true, true, true, true, false, false, false, false] rfl rfl (by kernel_rfl) (by decide) (fun K hK => ?_)
  refine goes_ Try.func19 (by kernel_rfl) rfl #[.int .i64 (na.size : Int), .int .i64 (nb.size : Int)] (by rfl) rfl rfl (by (try simp only [List.map_toArray, List.map_cons, List.map_nil]); first | done | rfl) ?_
  refine (cmp_Compare_int.calls _ _ _ _ (cmpI_eq (na.size : Int) (nb.size : Int))).mono ?_
  rintro e w4 ⟨rfl, hd4⟩
  refine ⟨_, rfl, ?_⟩
  have hh4 : w4.heap = X.heap := (drawn_heap hd4).trans hh3
  refine hK.out _ _ (HS.out _ hh4) (fun hHeld => ?_)
  clear hK K
  refine norm_ (a' := ?_) ?_ ?_
  rotate_left
  · show Act.put _ (some 26) _ = _
    simp only [Act.put, List.setIfInBounds_toArray, List.set_cons_zero, List.set_cons_succ, i64_w, i32_w]
    rfl
  refine one_ (i := 28) (N := some 35) #[true, true, true, true, true, true, true, true, true, true, true, true, true, true, true, true, true, true, true, true, true, true, true, true, true, true, true, true, true, false, false, false] rfl rfl (by kernel_rfl) (by decide) (fun K hK => ?_)
  refine goes_ Try.func20 (by kernel_rfl) rfl #[.string na, .string nb] (by rfl) rfl rfl (by (try simp only [List.map_toArray, List.map_cons, List.map_nil]); first | done | rfl) ?_
  refine (strCompare_calls na nb _).mono ?_
  rintro e w5 ⟨rfl, hd5⟩
  refine ⟨_, rfl, ?_⟩
  have hh5 : w5.heap = X.heap := (drawn_heap hd5).trans hh4
  refine hK.out _ _ (HS.out _ hh5) (fun hHeld => ?_)
  clear hK K
  refine norm_ (a' := ?_) ?_ ?_
  rotate_left
  · show Act.put _ (some 35) _ = _
    simp only [Act.put, List.setIfInBounds_toArray, List.set_cons_zero, List.set_cons_succ, i64_w, i32_w]
    rfl
  obtain ⟨c1, hc1⟩ : ∃ c1, cmpI vb va = c1 := ⟨_, rfl⟩
  obtain ⟨c2, hc2⟩ : ∃ c2, cmpI ((na.size : Nat) : Int) ((nb.size : Nat) : Int) = c2 := ⟨_, rfl⟩
  obtain ⟨c3, hc3⟩ : ∃ c3, cmpS na nb = c3 := ⟨_, rfl⟩
  rw [hc1, hc2, hc3] at HR ⊢
  clear hc1 hc2 hc3
  refine one_ (i := 29) (N := some 36) #[true, true, true, true, true, true, true, true, true, true, true, true, true, true, true, true, true, true, true, true, true, true, true, true, true, true, true, true, true, true, false, false] rfl rfl (by kernel_rfl) (by decide) (fun K hK => ?_)
  refine value_ (v := .slice (some ⟨w5.heap.size, 0, none⟩) 3 3) (w1 := w5.alloc (.cells #[.int .i64 c1, .int .i64 c2, .int .i64 c3] 3)) (by rfl) rfl ?_ ?_
  · go_simp
  obtain ⟨w6, hw6⟩ : ∃ w6, w5.alloc (.cells #[.int .i64 c1, .int .i64 c2, .int .i64 c3] 3) = w6 := ⟨_, rfl⟩
  have hb6 : Below w5.heap.size w5 w6 := by rw [← hw6]; exact below_alloc (Below.refl _ _) _
  have hk6 : w6.heap[w5.heap.size]? = some (.cells (ints [c1, c2, c3]) 3 (0, 0)) := by rw [← hw6]; exact hb_new _ _
  rw [hw6]
  clear hw6
  have hS6 := HS.out _ hh5
  have hc6 : ∀ p v, w5.cell? p = some v → w6.cell? p = some v := fun p v h => (hb6.cell (World.block_lt_of_cell? _ _ h)).trans h
  have hHeld6 := And.intro (hc6 _ _ hS6.1) (And.intro (hc6 _ _ hS6.2.1) (And.intro (hc6 _ _ hS6.2.2.1) (And.intro (hc6 _ _ hS6.2.2.2.1) (And.intro (hc6 _ _ hS6.2.2.2.2.1) (hc6 _ _ hS6.2.2.2.2.2)))))
  refine hK.out _ _ (hHeld6) (fun hHeld => ?_)
  clear hK K
  refine norm_ (a' := ?_) ?_ ?_
  rotate_left
  · show Act.put _ (some 36) _ = _
    simp only [Act.put, List.setIfInBounds_toArray, List.set_cons_zero, List.set_cons_succ, i64_w, i32_w]
    rfl
  obtain ⟨kk, hkk⟩ := or_ev [c1, c2, c3] (by simp)
  have hb5 : Below X.heap.size X w6 := by
    have z3 : X.heap.size ≤ w3.heap.size := Nat.le_of_eq (by rw [hh3])
    have z4 : X.heap.size ≤ w4.heap.size := Nat.le_of_eq (by rw [hh4])
    have z5 : X.heap.size ≤ w5.heap.size := Nat.le_of_eq (by rw [hh5])
    have h1 : Below X.heap.size X w3 := (below_drew1 (Below.refl _ X)).trans hd3.below
    exact ((h1.trans (hd4.below.mono z3)).trans (hd5.below.mono z4)).trans (hb6.mono z5)
  refine last_ (i := 30) (N := some 37) #[true, true, true, true, true, true, true, true, true, true, true, true, true, true, true, true, true, true, true, true, true, true, true, true, true, true, true, true, true, true, true, false] rfl rfl (by kernel_rfl) (by decide) (fun K hK => ?_)
  refine goes_ Try.func18 (by kernel_rfl) rfl #[.slice (some ⟨w5.heap.size, 0, none⟩) 3 3] (by rfl) rfl rfl (by (try simp only [List.map_toArray, List.map_cons, List.map_nil]); first | done | rfl) ?_
  refine (cmp_Or_int.calls kk (some ⟨w5.heap.size, 0, none⟩) 3 [c1, c2, c3] _ w6 (C_ints hk6 (by simp)) (Nat.le_refl _) hkk).mono ?_
  rintro e w7 ⟨rfl, hd7⟩
  refine ⟨_, rfl, ?_⟩
  refine hK.out _ _ ?_
  have hb7 : Below X.heap.size X w7 := hb5.trans (hd7.below.mono hb5.size)
  clear hK K hHeld
  refine norm_ (a' := ?_) ?_ ?_
  rotate_left
  · show Act.put _ (some 37) _ = _
    simp only [Act.put, List.setIfInBounds_toArray, List.set_cons_zero, List.set_cons_succ, i64_w, i32_w]
    rfl
  refine pure_ (i := 31) (N := some 6) (v := ?_) (a' := ?_) #[true, true, true, true, true, true, true, true, true, true, true, true, true, true, true, true, true, true, true, true, true, true, true, true, true, true, true, true, true, true, true, true] rfl rfl (by kernel_rfl) (fun _ _ _ h => h) (Or.inl ⟨by rfl, ?_⟩) ?_ ?_
  rotate_left
  · intro w'
    go_simp
    with_reducible rfl
  rotate_left
  · simp only [Act.put, List.setIfInBounds_toArray, List.set_cons_zero, List.set_cons_succ, i64_w, i32_w]
    rfl
  refine done_ (by kernel_rfl) ?_
  go_wp2
  go_ret
  exact ⟨by rw [HR.out]; rfl, hb7⟩
end
section
open Go.Lib Go.Shelf Go.Proofs.Ytpkdgdhfhgelbaa.Hand Go.Proofs.Ytpkdgdhfhgelbaa.Aid
/-! ### over lists -/
def swpL (xs : List Int) (j : Nat) : List Int := (xs.set (j + 1) (xs.getD j 0)).set j (xs.getD (j + 1) 0)
/-- The element at j goes down to its place, not below a. -/
def insJ (lt : Int → Int → Bool) (a : Nat) : Nat → List Int → List Int
  | 0, xs => xs
  | j + 1, xs => if a < j + 1 ∧ lt (xs.getD (j + 1) 0) (xs.getD j 0) = true then insJ lt a j (swpL xs j) else xs
/-- Elements a + 1 .. a + d have gone down. -/
def insN (lt : Int → Int → Bool) (a : Nat) : Nat → List Int → List Int
  | 0, xs => xs
  | d + 1, xs => insJ lt a (a + 1 + d) (insN lt a d xs)
theorem swpL_len (xs : List Int) (j : Nat) : (swpL xs j).length = xs.length := by unfold swpL; simp
theorem insJ_len (lt : Int → Int → Bool) (a : Nat) : ∀ j xs, (insJ lt a j xs).length = xs.length
  | 0, xs => rfl
  | j + 1, xs => by
    unfold insJ
    split
    · rw [insJ_len lt a j, swpL_len]
    · rfl
theorem insN_len (lt : Int → Int → Bool) (a : Nat) : ∀ d xs, (insN lt a d xs).length = xs.length
  | 0, xs => rfl
  | d + 1, xs => by unfold insN; rw [insJ_len, insN_len lt a d]
def okL (n : Nat) (xs : List Int) : Prop := ∀ x ∈ xs, 0 ≤ x ∧ x < (n : Int)
theorem okL.get {n : Nat} {xs : List Int} (h : okL n xs) (j : Nat) (hj : j < xs.length) : 0 ≤ xs.getD j 0 ∧ xs.getD j 0 < (n : Int) := by
  rw [List.getD_eq_getElem?_getD, List.getElem?_eq_getElem hj]
  exact h _ (List.getElem_mem hj)
theorem swpL_ok {n : Nat} {xs : List Int} (h : okL n xs) (j : Nat) (hj : j + 1 < xs.length) : okL n (swpL xs j) := by
  intro x hx
  unfold swpL at hx
  rcases List.mem_or_eq_of_mem_set hx with hx | rfl
  · rcases List.mem_or_eq_of_mem_set hx with hx | rfl
    · exact h x hx
    · exact h.get j (by omega)
  · exact h.get (j + 1) hj
theorem insJ_ok (lt : Int → Int → Bool) (a n : Nat) : ∀ j xs, okL n xs → j < xs.length → okL n (insJ lt a j xs)
  | 0, xs, h, _ => h
  | j + 1, xs, h, hj => by
    unfold insJ
    split
    · exact insJ_ok lt a n j _ (swpL_ok h j hj) (by rw [swpL_len]; omega)
    · exact h
theorem insN_ok (lt : Int → Int → Bool) (a n : Nat) : ∀ d xs, okL n xs → a + d < xs.length → okL n (insN lt a d xs)
  | 0, xs, h, _ => h
  | d + 1, xs, h, hd => by
    unfold insN
    exact insJ_ok lt a n _ _ (insN_ok lt a n d xs h (by omega)) (by rw [insN_len]; omega)
/-! ### the row that is sorted, and what the closure reads -/
def intsR (xs : List Int) (rest : List Value) : Array Value := (xs.map (Value.int .i64) ++ rest).toArray
theorem intsR_get (xs : List Int) (rest : List Value) (j : Nat) (hj : j < xs.length) : (intsR xs rest)[j]? = some (.int .i64 (xs.getD j 0)) := by
  unfold intsR
  simp [List.getElem?_append, hj, List.getD_eq_getElem?_getD]
theorem intsR_set (xs : List Int) (rest : List Value) (j : Nat) (hj : j < xs.length) (v : Int) : (intsR xs rest).setIfInBounds j (.int .i64 v) = intsR (xs.set j v) rest := by
  unfold intsR
  apply Array.ext'
  simp [List.map_set, List.set_append_left _ _ (show j < (xs.map (Value.int .i64)).length by simpa using hj)]
structure RankG (w : World) (g s2 sb s3 : Nat) (sc : List Int) (names : List ByteArray) (X : World) : Prop where
  b2 : X.heap[s2]? = some (.cells #[.slice (some ⟨sb, 0, none⟩) sc.length sc.length] 23 (0, 0))
  bs : X.heap[sb]? = some (.cells (ints sc) 3 (0, 0))
  b3 : ∃ A c, X.heap[s3]? = some (.cells #[.slice A names.length c] 29 (0, 0)) ∧ Kd.C Kd.string w A names.length names
  len : sc.length = names.length
  bel : Below w.heap.size w X
  ne : s2 ≠ g ∧ sb ≠ g ∧ s3 ≠ g ∧ w.heap.size ≤ g
theorem RankG.read {w X : World} {g s2 sb s3 : Nat} {sc : List Int} {names : List ByteArray} (h : RankG w g s2 sb s3 sc names X) : RankC s2 sb s3 sc names X := by
  obtain ⟨A, c, h1, h2⟩ := h.b3
  exact ⟨h.b2, h.bs, ⟨A, c, h1, Kd.C_below h2 h.bel⟩, h.len⟩
theorem RankG.chg {w X X' : World} {g s2 sb s3 : Nat} {sc : List Int} {names : List ByteArray} (h : RankG w g s2 sb s3 sc names X) (hc : Chg (fun q => q = g) X X') : RankG w g s2 sb s3 sc names X' := by
  obtain ⟨A, c, h1, h2⟩ := h.b3
  exact ⟨(hc.block _ (lt_of_blk h.b2) h.ne.1).trans h.b2, (hc.block _ (lt_of_blk h.bs) h.ne.2.1).trans h.bs, ⟨A, c, (hc.block _ (lt_of_blk h1) h.ne.2.2.1).trans h1, h2⟩, h.len, h.bel.trans (hc.to_below (fun q _ hq => by have := h.ne.2.2.2; omega) h.bel.size), h.ne⟩
def ltR (sc : List Int) (names : List ByteArray) (x y : Int) : Bool := decide (cmpR sc names x y < 0)
set_option maxRecDepth 100000 in
set_option maxHeartbeats 16000000 in
theorem insertion_calls (w : World) (g s2 sb s3 cp : Nat) (sc : List Int) (names : List ByteArray) (xs : List Int) (rest : List Value) (a b : Nat) (X : World) (hG : RankG w g s2 sb s3 sc names X) (hr : X.heap[g]? = some (.cells (intsR xs rest) 3 (0, 0)))
    (hok : okL names.length xs) (hb : b ≤ xs.length) (hl : xs.length ≤ 1000000) (ha : a ≤ 1000000) :
    Calls Try.prog 32 #[.slice (some ⟨g, 0, none⟩) xs.length cp, .int .i64 (a : Int), .int .i64 (b : Int), .func (.func 17) #[] #[.pointer (some ⟨s2, 0, none⟩), .pointer (some ⟨s3, 0, none⟩)]] X fun e X' =>
      (∃ v, e = .returned v) ∧ X'.heap[g]? = some (.cells (intsR (insN (ltR sc names) a (b - (a + 1)) xs) rest) 3 (0, 0)) ∧ Chg (fun q => q = g) X X' := by
  have HG := Aside0.mk hG
  have HR := Aside0.mk hr
  have HOK := Aside0.mk hok
  have HBL := Aside0.mk (And.intro hb (And.intro hl ha))
  obtain ⟨m, hm⟩ : ∃ m, b - (a + 1) = m := ⟨_, rfl⟩
  rw [hm]
  have HM := Aside0.mk hm
  have hgl := lt_of_blk hr
  have HGL := Aside0.mk hgl
  have ha1 : a + 1 ≤ 9223372036854775807 := by omega
  clear hG hr hok hb hl hm hgl ha
  go_enter Try.func32, Try.ntmps32
  go_wp2
  go_loopg [8] m (fun kq v8 W => ∃ d : Nat, v8 = .int .i64 ((a + 1 + d : Nat) : Int) ∧ kq + d = m ∧ Aside0 (W.heap[g]? = some (.cells (intsR (insN (ltR sc names) a d xs) rest) 3 (0, 0)) ∧ Chg (fun q => q = g) X W))
  case atStart => exact ⟨0, by first | rfl | simp, by omega, ⟨HR.out, Chg.refl _ _⟩⟩
  case round =>
    obtain ⟨d, rfl, hd, hA⟩ := hrel
    cases gk with
    | zero =>
      have hdm : d = m := by omega
      subst hdm
      have HLE := Aside0.mk (show ¬ (a + 1 + d < b) by have := HM.out; omega)
      have c1 : decide (((a + 1 + d : Nat) : Int) < (b : Int)) = false := decide_eq_false (by have := HLE.out; omega)
      have c2 : decide (a + 1 + d < b) = false := decide_eq_false HLE.out
      have c3 : decide ((a : Int) + 1 + (d : Int) < (b : Int)) = false := decide_eq_false (by have := HLE.out; omega)
      clear hd
      go_wp2
      go_end0
      exact ⟨⟨_, rfl⟩, hA.out⟩
    | succ k1 =>
      have HLT := Aside0.mk (show a + 1 + d < b by have := HM.out; omega)
      obtain ⟨i, hie⟩ : ∃ i, a + 1 + d = i := ⟨_, rfl⟩
      have HIE := Aside0.mk hie
      obtain ⟨ys, hys⟩ : ∃ ys, insN (ltR sc names) a d xs = ys := ⟨_, rfl⟩
      have HNX := Aside0.mk (show insN (ltR sc names) a (d + 1) xs = insJ (ltR sc names) a i ys by rw [← hie, ← hys]; rfl)
      have HYL := Aside0.mk (show ys.length = xs.length by rw [← hys]; exact insN_len _ _ _ _)
      have HYO := Aside0.mk (show okL names.length ys by rw [← hys]; exact insN_ok _ _ _ _ _ HOK.out (by have := HLT.out; have := HBL.out; omega))
      rw [hys] at hA
      rw [hie] at HLT ⊢
      clear hys hie
      have c1 : decide ((i : Int) < (b : Int)) = true := decide_eq_true (by have := HLT.out; omega)
      have c2 : decide (i < b) = true := decide_eq_true HLT.out
      have hi1 : i + 1 ≤ 9223372036854775807 := by have := HLT.out; have := HBL.out; omega
      go_wp2
      clear c1 c2
      go_loopg [9] i (fun kq v9 W => ∃ (j : Nat) (zs : List Int), v9 = .int .i64 (j : Int) ∧ kq = j ∧ Aside0 (j ≤ i ∧ insJ (ltR sc names) a j zs = insJ (ltR sc names) a i ys ∧ zs.length = xs.length ∧ okL names.length zs ∧ W.heap[g]? = some (.cells (intsR zs rest) 3 (0, 0)) ∧ Chg (fun q => q = g) X W))
      case atStart => exact ⟨i, ys, rfl, rfl, ⟨Nat.le_refl _, rfl, HYL.out, HYO.out, hA.out.1, hA.out.2⟩⟩
      case round =>
        obtain ⟨j, zs, rfl, rfl, hB⟩ := hrel
        by_cases haj : a < gk
        · obtain ⟨j, rfl⟩ : ∃ j, gk = j + 1 := ⟨gk - 1, by omega⟩
          have hjz : j + 1 < zs.length := by have h1 := hB.out.1; have h2 := HLT.out; have h3 := HBL.out.1; have h4 := hB.out.2.2.1; omega
          obtain ⟨x, hx⟩ : ∃ x, zs.getD (j + 1) 0 = x := ⟨_, rfl⟩
          obtain ⟨y, hy⟩ : ∃ y, zs.getD j 0 = y := ⟨_, rfl⟩
          have hxo := hB.out.2.2.2.1.get (j + 1) hjz
          have hyo := hB.out.2.2.2.1.get j (by omega)
          have hcx : wr.cell? ⟨g, j + 1, none⟩ = some (.int .i64 x) := (cells_of_blk hB.out.2.2.2.2.1 (j + 1)).trans ((intsR_get _ _ _ hjz).trans (by rw [hx]))
          have hcy : wr.cell? ⟨g, j, none⟩ = some (.int .i64 y) := (cells_of_blk hB.out.2.2.2.2.1 j).trans ((intsR_get _ _ _ (by omega)).trans (by rw [hy]))
          rw [hx] at hxo
          rw [hy] at hyo
          have hstep : insJ (ltR sc names) a (j + 1) zs = if ltR sc names x y = true then insJ (ltR sc names) a j (swpL zs j) else zs := by
            show (if a < j + 1 ∧ ltR sc names (zs.getD (j + 1) 0) (zs.getD j 0) = true then _ else _) = _
            rw [hx, hy]
            by_cases h : ltR sc names x y = true
            · rw [if_pos ⟨haj, h⟩, if_pos h]
            · rw [if_neg (fun e => h e.2), if_neg h]
          have hCC : ∀ Y : World, Chg (fun q => q = g) X Y → Calls Try.prog 17 #[.int .i64 x, .int .i64 y, .pointer (some ⟨s2, 0, none⟩), .pointer (some ⟨s3, 0, none⟩)] Y fun e Y' => e = .returned (.int .i64 (cmpR sc names x y)) ∧ Below Y.heap.size Y Y' := fun Y hY => by
            have h := clo17_calls s2 sb s3 sc names x.toNat y.toNat Y (HG.out.chg hY).read (by omega) (by omega)
            rw [Int.toNat_of_nonneg hxo.1, Int.toNat_of_nonneg hyo.1] at h
            exact h
          obtain ⟨cv, hcv⟩ : ∃ cv, cmpR sc names x y = cv := ⟨_, rfl⟩
          have hlt : ltR sc names x y = decide (cv < 0) := by unfold ltR; rw [hcv]
          rw [hcv] at hCC
          have HCC := Aside0.mk hCC
          have HST := Aside0.mk hstep
          have HLTR := Aside0.mk hlt
          have HXY := Aside0.mk (And.intro hx hy)
          have HJZ := Aside0.mk hjz
          have HBB := Aside0.mk hB.out
          have e1 : decide (((j + 1 : Nat) : Int) > (a : Int)) = true := decide_eq_true (by omega)
          have e2 : decide (j + 1 > a) = true := decide_eq_true haj
          have e3 : decide ((a : Int) < ((j + 1 : Nat) : Int)) = true := decide_eq_true (by omega)
          have e4 : decide (a < j + 1) = true := decide_eq_true haj
          have e5 : decide ((a : Int) < (j : Int) + 1) = true := decide_eq_true (by omega)
          have e6 : decide ((j : Int) + 1 > (a : Int)) = true := decide_eq_true (by omega)
          have r0 := eq_true (show (0 : Int) ≤ (j : Int) by omega)
          have r1 := eq_true (show (j : Int) < (xs.length : Int) by have := hB.out.2.2.1; omega)
          have r2 := eq_true (show j < xs.length by have := hB.out.2.2.1; omega)
          have r3 := eq_true (show (0 : Int) ≤ (j : Int) + 1 by omega)
          have r4 := eq_true (show (j : Int) + 1 < (xs.length : Int) by have := hB.out.2.2.1; omega)
          have r5 := eq_true (show j + 1 < xs.length by have := hB.out.2.2.1; omega)
          have hw0 : wrap64 (j : Int) = (j : Int) := wrap_id (by omega) (by have := hB.out.2.2.1; have := HBL.out; omega)
          clear hstep hlt hx hy hjz hxo hyo hcv hCC hB
          go_upto_region 4 with (fail)
          refine start_ (n := 17) (S := fun X' => X'.cell? ⟨g, j + 1, none⟩ = some (.int .i64 x) ∧ X'.cell? ⟨g, j, none⟩ = some (.int .i64 y)) (ds := [14]) #[false, false, false, false, false, false, false, false, false, false, false, false, false, false, false, false, false] (by kernel_rfl) rfl rfl (⟨hcx, hcy⟩) (fun hHeld => ?_)
          refine pure_ (i := 0) (N := some 18) (v := ?_) (a' := ?_) #[true, false, false, false, false, false, false, false, false, false, false, false, false, false, false, false, false] rfl rfl (by kernel_rfl) (fun _ _ _ h => h) (Or.inl ⟨by rfl, ?_⟩) ?_ ?_
          rotate_left
          · intro w'
            go_simp
            with_reducible rfl
          rotate_left
          · simp only [Act.put, List.setIfInBounds_toArray, List.set_cons_zero, List.set_cons_succ, i64_w, i32_w]
            rfl
          refine pure_ (i := 1) (N := some 19) (v := ?_) (a' := ?_) #[true, true, false, false, false, false, false, false, false, false, false, false, false, false, false, false, false] rfl rfl (by kernel_rfl) (fun _ _ _ h => h) (Or.inl ⟨by rfl, ?_⟩) ?_ ?_
          rotate_left
          · intro w'
            go_simp
            with_reducible rfl
          rotate_left
          · simp only [Act.put, List.setIfInBounds_toArray, List.set_cons_zero, List.set_cons_succ, i64_w, i32_w]
            rfl
          refine pure_ (i := 2) (N := some 20) (v := ?_) (a' := ?_) #[true, true, true, false, false, false, false, false, false, false, false, false, false, false, false, false, false] rfl rfl (by kernel_rfl) (fun _ _ _ h => h) (Or.inl ⟨by rfl, ?_⟩) ?_ ?_
          rotate_left
          · intro w'
            go_simp
            with_reducible rfl
          rotate_left
          · simp only [Act.put, List.setIfInBounds_toArray, List.set_cons_zero, List.set_cons_succ, i64_w, i32_w]
            rfl
          refine pure_ (i := 3) (N := some 21) (v := ?_) (a' := ?_) #[true, true, true, true, false, false, false, false, false, false, false, false, false, false, false, false, false] rfl rfl (by kernel_rfl) (fun _ _ _ h => h) (Or.inl ⟨by rfl, ?_⟩) ?_ ?_
          rotate_left
          · intro w'
            go_simp
            with_reducible rfl
          rotate_left
          · simp only [Act.put, List.setIfInBounds_toArray, List.set_cons_zero, List.set_cons_succ, i64_w, i32_w]
            rfl
          refine pure_ (i := 4) (N := some 22) (v := ?_) (a' := ?_) #[true, true, true, true, true, false, false, false, false, false, false, false, false, false, false, false, false] rfl rfl (by kernel_rfl) (fun _ _ _ h => h) (Or.inl ⟨by rfl, ?_⟩) ?_ ?_
          rotate_left
          · intro w'
            go_simp
            with_reducible rfl
          rotate_left
          · simp only [Act.put, List.setIfInBounds_toArray, List.set_cons_zero, List.set_cons_succ, i64_w, i32_w]
            rfl
          refine pure_ (i := 5) (N := some 23) (v := ?_) (a' := ?_) #[true, true, true, true, true, true, false, false, false, false, false, false, false, false, false, false, false] rfl rfl (by kernel_rfl) (fun _ _ _ h => h) (Or.inl ⟨by rfl, ?_⟩) ?_ ?_
          rotate_left
          · intro w'
            go_simp
            with_reducible rfl
          rotate_left
          · simp only [Act.put, List.setIfInBounds_toArray, List.set_cons_zero, List.set_cons_succ, i64_w, i32_w]
            rfl
          refine pure_ (i := 6) (N := some 24) (v := ?_) (a' := ?_) #[true, true, true, true, true, true, true, false, false, false, false, false, false, false, false, false, false] rfl rfl (by kernel_rfl) (fun _ _ _ h => h) (Or.inl ⟨by rfl, ?_⟩) ?_ ?_
          rotate_left
          · intro w'
            go_simp
            with_reducible rfl
          rotate_left
          · simp only [Act.put, List.setIfInBounds_toArray, List.set_cons_zero, List.set_cons_succ, i64_w, i32_w]
            rfl
          refine pure_ (i := 7) (N := some 25) (v := ?_) (a' := ?_) #[true, true, true, true, true, true, true, true, false, false, false, false, false, false, false, false, false] rfl rfl (by kernel_rfl) (fun _ _ _ h => h) (Or.inl ⟨by rfl, ?_⟩) ?_ ?_
          rotate_left
          · intro w'
            go_simp
            with_reducible rfl
          rotate_left
          · simp only [Act.put, List.setIfInBounds_toArray, List.set_cons_zero, List.set_cons_succ, i64_w, i32_w]
            rfl
          refine take_ (i := 8) (N := some 26) (v := ?_) (a' := ?_) #[true, true, true, true, true, true, true, true, true, false, false, false, false, false, false, false, false] rfl rfl (by kernel_rfl) (fun _ _ _ h => h) (Or.inl ⟨by rfl, ?_⟩) hHeld ?_ ?_
          rotate_left
          · rintro w' ⟨s0_, s1_⟩
            go_simp
            with_reducible rfl
          rotate_left
          · simp only [Act.put, List.setIfInBounds_toArray, List.set_cons_zero, List.set_cons_succ, i64_w, i32_w]
            rfl
          refine pure_ (i := 9) (N := some 27) (v := ?_) (a' := ?_) #[true, true, true, true, true, true, true, true, true, true, false, false, false, false, false, false, false] rfl rfl (by kernel_rfl) (fun _ _ _ h => h) (Or.inl ⟨by rfl, ?_⟩) ?_ ?_
          rotate_left
          · intro w'
            go_simp
            with_reducible rfl
          rotate_left
          · simp only [Act.put, List.setIfInBounds_toArray, List.set_cons_zero, List.set_cons_succ, i64_w, i32_w]
            rfl
          refine pure_ (i := 10) (N := some 28) (v := ?_) (a' := ?_) #[true, true, true, true, true, true, true, true, true, true, true, false, false, false, false, false, false] rfl rfl (by kernel_rfl) (fun _ _ _ h => h) (Or.inl ⟨by rfl, ?_⟩) ?_ ?_
          rotate_left
          · intro w'
            go_simp
            with_reducible rfl
          rotate_left
          · simp only [Act.put, List.setIfInBounds_toArray, List.set_cons_zero, List.set_cons_succ, i64_w, i32_w]
            rfl
          refine pure_ (i := 11) (N := some 29) (v := ?_) (a' := ?_) #[true, true, true, true, true, true, true, true, true, true, true, true, false, false, false, false, false] rfl rfl (by kernel_rfl) (fun _ _ _ h => h) (Or.inl ⟨by rfl, ?_⟩) ?_ ?_
          rotate_left
          · intro w'
            go_simp
            with_reducible rfl
          rotate_left
          · simp only [Act.put, List.setIfInBounds_toArray, List.set_cons_zero, List.set_cons_succ, i64_w, i32_w]
            rfl
          refine pure_ (i := 12) (N := some 30) (v := ?_) (a' := ?_) #[true, true, true, true, true, true, true, true, true, true, true, true, true, false, false, false, false] rfl rfl (by kernel_rfl) (fun _ _ _ h => h) (Or.inl ⟨by rfl, ?_⟩) ?_ ?_
          rotate_left
          · intro w'
            go_simp
            with_reducible rfl
          rotate_left
          · simp only [Act.put, List.setIfInBounds_toArray, List.set_cons_zero, List.set_cons_succ, i64_w, i32_w]
            rfl
          refine take_ (i := 13) (N := some 31) (v := ?_) (a' := ?_) #[true, true, true, true, true, true, true, true, true, true, true, true, true, true, false, false, false] rfl rfl (by kernel_rfl) (fun _ _ _ h => h) (Or.inl ⟨by rfl, ?_⟩) hHeld ?_ ?_
          rotate_left
          · rintro w' ⟨s0_, s1_⟩
            go_simp
            with_reducible rfl
          rotate_left
          · simp only [Act.put, List.setIfInBounds_toArray, List.set_cons_zero, List.set_cons_succ, i64_w, i32_w]
            rfl
          refine last_ (i := 14) (N := some 32) #[true, true, true, true, true, true, true, true, true, true, true, true, true, true, true, false, false] rfl rfl (by kernel_rfl) (by decide) (fun K hK => ?_)
          refine call_ 17 #[.int .i64 x, .int .i64 y, .pointer (some ⟨s2, 0, none⟩), .pointer (some ⟨s3, 0, none⟩)] (by rfl) rfl (by have hen := fun args w => enters_ Try.func17 (by kernel_rfl) rfl args w; simp [execOp, resolve, invoke, Deferred.ofValue, Act.eval, hen]) ?_
          refine (HCC.out wr.drew (HBB.out.2.2.2.2.2.trans (Chg.drew _) (fun _ _ h => h))).mono ?_
          rintro e w5 ⟨rfl, hb5⟩
          refine ⟨_, rfl, ?_⟩
          refine hK.out _ _ ?_
          clear hK K hHeld
          refine norm_ (a' := ?_) ?_ ?_
          rotate_left
          · show Act.put _ (some 32) _ = _
            simp only [Act.put, List.setIfInBounds_toArray, List.set_cons_zero, List.set_cons_succ, i64_w, i32_w]
            rfl
          refine pure_ (i := 15) (N := some 33) (v := ?_) (a' := ?_) #[true, true, true, true, true, true, true, true, true, true, true, true, true, true, true, true, false] rfl rfl (by kernel_rfl) (fun _ _ _ h => h) (Or.inl ⟨by rfl, ?_⟩) ?_ ?_
          rotate_left
          · intro w'
            go_simp
            with_reducible rfl
          rotate_left
          · simp only [Act.put, List.setIfInBounds_toArray, List.set_cons_zero, List.set_cons_succ, i64_w, i32_w]
            rfl
          refine pure_ (i := 16) (N := some 34) (v := ?_) (a' := ?_) #[true, true, true, true, true, true, true, true, true, true, true, true, true, true, true, true, true] rfl rfl (by kernel_rfl) (fun _ _ _ h => h) (Or.inl ⟨by rfl, ?_⟩) ?_ ?_
          rotate_left
          · intro w'
            go_simp
            with_reducible rfl
          rotate_left
          · simp only [Act.put, List.setIfInBounds_toArray, List.set_cons_zero, List.set_cons_succ, i64_w, i32_w]
            rfl
          refine done_ (by kernel_rfl) ?_
          have hch5 : Chg (fun q => q = g) X w5 := (HBB.out.2.2.2.2.2.trans (Chg.drew _) (fun _ _ h => h)).trans (Chg.of_new hb5 : Chg (fun q => q = g) wr.drew w5) (fun _ _ h => h)
          have hg5 : w5.heap[g]? = some (.cells (intsR zs rest) 3 (0, 0)) := (hb5.block g (lt_of_blk HBB.out.2.2.2.2.1)).trans HBB.out.2.2.2.2.1
          have HCH := Aside0.mk hch5
          have HG5 := Aside0.mk hg5
          clear hb5 hch5 hg5 hcx hcy e1 e2 e3 e4 e5 e6 hw0
          by_cases hc : cv < 0
          · have f1 : decide (cv < 0) = true := decide_eq_true hc
            have HSW := Aside0.mk (show insJ (ltR sc names) a j (swpL zs j) = insJ (ltR sc names) a i ys by
              rw [← HBB.out.2.1, HST.out, if_pos (by rw [HLTR.out, f1])])
            simp only [f1]
            clear hc f1
            have hw0 : wrap64 (j : Int) = (j : Int) := wrap_id (by omega) (by have := HBB.out.2.2.1; have := HBL.out; have := HJZ.out; omega)
            have hcx : w5.cell? ⟨g, j + 1, none⟩ = some (.int .i64 x) := (cells_of_blk HG5.out (j + 1)).trans ((intsR_get _ _ _ HJZ.out).trans (by rw [HXY.out.1]))
            have hcy : w5.cell? ⟨g, j, none⟩ = some (.int .i64 y) := (cells_of_blk HG5.out j).trans ((intsR_get _ _ _ (by have := HJZ.out; omega)).trans (by rw [HXY.out.2]))
            go_upto_region 6 with (fail)
            refine start_ (n := 18) (S := fun X' => X'.cell? ⟨g, j + 1, none⟩ = some (.int .i64 x) ∧ X'.cell? ⟨g, j, none⟩ = some (.int .i64 y)) (ds := [15, 17]) #[false, false, false, false, false, false, false, false, false, false, false, false, false, false, false, false, false, false] (by kernel_rfl) rfl rfl (⟨hcx, hcy⟩) (fun hHeld => ?_)
            refine pure_ (i := 0) (N := some 37) (v := ?_) (a' := ?_) #[true, false, false, false, false, false, false, false, false, false, false, false, false, false, false, false, false, false] rfl rfl (by kernel_rfl) (fun _ _ _ h => h) (Or.inl ⟨by rfl, ?_⟩) ?_ ?_
            rotate_left
            · intro w'
              go_simp
              with_reducible rfl
            rotate_left
            · simp only [Act.put, List.setIfInBounds_toArray, List.set_cons_zero, List.set_cons_succ, i64_w, i32_w]
              rfl
            refine pure_ (i := 1) (N := some 38) (v := ?_) (a' := ?_) #[true, true, false, false, false, false, false, false, false, false, false, false, false, false, false, false, false, false] rfl rfl (by kernel_rfl) (fun _ _ _ h => h) (Or.inl ⟨by rfl, ?_⟩) ?_ ?_
            rotate_left
            · intro w'
              go_simp
              with_reducible rfl
            rotate_left
            · simp only [Act.put, List.setIfInBounds_toArray, List.set_cons_zero, List.set_cons_succ, i64_w, i32_w]
              rfl
            refine pure_ (i := 5) (N := some 42) (v := ?_) (a' := ?_) #[true, true, false, false, false, true, false, false, false, false, false, false, false, false, false, false, false, false] rfl rfl (by kernel_rfl) (fun _ _ _ h => h) (Or.inl ⟨by rfl, ?_⟩) ?_ ?_
            rotate_left
            · intro w'
              go_simp
              with_reducible rfl
            rotate_left
            · simp only [Act.put, List.setIfInBounds_toArray, List.set_cons_zero, List.set_cons_succ, i64_w, i32_w]
              rfl
            refine pure_ (i := 6) (N := some 43) (v := ?_) (a' := ?_) #[true, true, false, false, false, true, true, false, false, false, false, false, false, false, false, false, false, false] rfl rfl (by kernel_rfl) (fun _ _ _ h => h) (Or.inl ⟨by rfl, ?_⟩) ?_ ?_
            rotate_left
            · intro w'
              go_simp
              with_reducible rfl
            rotate_left
            · simp only [Act.put, List.setIfInBounds_toArray, List.set_cons_zero, List.set_cons_succ, i64_w, i32_w]
              rfl
            refine pure_ (i := 7) (N := some 44) (v := ?_) (a' := ?_) #[true, true, false, false, false, true, true, true, false, false, false, false, false, false, false, false, false, false] rfl rfl (by kernel_rfl) (fun _ _ _ h => h) (Or.inl ⟨by rfl, ?_⟩) ?_ ?_
            rotate_left
            · intro w'
              go_simp
              with_reducible rfl
            rotate_left
            · simp only [Act.put, List.setIfInBounds_toArray, List.set_cons_zero, List.set_cons_succ, i64_w, i32_w]
              rfl
            refine pure_ (i := 8) (N := some 45) (v := ?_) (a' := ?_) #[true, true, false, false, false, true, true, true, true, false, false, false, false, false, false, false, false, false] rfl rfl (by kernel_rfl) (fun _ _ _ h => h) (Or.inl ⟨by rfl, ?_⟩) ?_ ?_
            rotate_left
            · intro w'
              go_simp
              with_reducible rfl
            rotate_left
            · simp only [Act.put, List.setIfInBounds_toArray, List.set_cons_zero, List.set_cons_succ, i64_w, i32_w]
              rfl
            refine take_ (i := 9) (N := some 46) (v := ?_) (a' := ?_) #[true, true, false, false, false, true, true, true, true, true, false, false, false, false, false, false, false, false] rfl rfl (by kernel_rfl) (fun _ _ _ h => h) (Or.inl ⟨by rfl, ?_⟩) hHeld ?_ ?_
            rotate_left
            · rintro w' ⟨s0_, s1_⟩
              go_simp
              with_reducible rfl
            rotate_left
            · simp only [Act.put, List.setIfInBounds_toArray, List.set_cons_zero, List.set_cons_succ, i64_w, i32_w]
              rfl
            refine pure_ (i := 10) (N := some 47) (v := ?_) (a' := ?_) #[true, true, false, false, false, true, true, true, true, true, true, false, false, false, false, false, false, false] rfl rfl (by kernel_rfl) (fun _ _ _ h => h) (Or.inl ⟨by rfl, ?_⟩) ?_ ?_
            rotate_left
            · intro w'
              go_simp
              with_reducible rfl
            rotate_left
            · simp only [Act.put, List.setIfInBounds_toArray, List.set_cons_zero, List.set_cons_succ, i64_w, i32_w]
              rfl
            refine pure_ (i := 11) (N := some 48) (v := ?_) (a' := ?_) #[true, true, false, false, false, true, true, true, true, true, true, true, false, false, false, false, false, false] rfl rfl (by kernel_rfl) (fun _ _ _ h => h) (Or.inl ⟨by rfl, ?_⟩) ?_ ?_
            rotate_left
            · intro w'
              go_simp
              with_reducible rfl
            rotate_left
            · simp only [Act.put, List.setIfInBounds_toArray, List.set_cons_zero, List.set_cons_succ, i64_w, i32_w]
              rfl
            refine pure_ (i := 12) (N := some 49) (v := ?_) (a' := ?_) #[true, true, false, false, false, true, true, true, true, true, true, true, true, false, false, false, false, false] rfl rfl (by kernel_rfl) (fun _ _ _ h => h) (Or.inl ⟨by rfl, ?_⟩) ?_ ?_
            rotate_left
            · intro w'
              go_simp
              with_reducible rfl
            rotate_left
            · simp only [Act.put, List.setIfInBounds_toArray, List.set_cons_zero, List.set_cons_succ, i64_w, i32_w]
              rfl
            refine take_ (i := 13) (N := some 50) (v := ?_) (a' := ?_) #[true, true, false, false, false, true, true, true, true, true, true, true, true, true, false, false, false, false] rfl rfl (by kernel_rfl) (fun _ _ _ h => h) (Or.inl ⟨by rfl, ?_⟩) hHeld ?_ ?_
            rotate_left
            · rintro w' ⟨s0_, s1_⟩
              go_simp
              with_reducible rfl
            rotate_left
            · simp only [Act.put, List.setIfInBounds_toArray, List.set_cons_zero, List.set_cons_succ, i64_w, i32_w]
              rfl
            refine pure_ (i := 2) (N := some 39) (v := ?_) (a' := ?_) #[true, true, true, false, false, true, true, true, true, true, true, true, true, true, false, false, false, false] rfl rfl (by kernel_rfl) (fun _ _ _ h => h) (Or.inl ⟨by rfl, ?_⟩) ?_ ?_
            rotate_left
            · intro w'
              go_simp
              with_reducible rfl
            rotate_left
            · simp only [Act.put, List.setIfInBounds_toArray, List.set_cons_zero, List.set_cons_succ, i64_w, i32_w]
              rfl
            refine pure_ (i := 3) (N := some 40) (v := ?_) (a' := ?_) #[true, true, true, true, false, true, true, true, true, true, true, true, true, true, false, false, false, false] rfl rfl (by kernel_rfl) (fun _ _ _ h => h) (Or.inl ⟨by rfl, ?_⟩) ?_ ?_
            rotate_left
            · intro w'
              go_simp
              with_reducible rfl
            rotate_left
            · simp only [Act.put, List.setIfInBounds_toArray, List.set_cons_zero, List.set_cons_succ, i64_w, i32_w]
              rfl
            refine pure_ (i := 4) (N := some 41) (v := ?_) (a' := ?_) #[true, true, true, true, true, true, true, true, true, true, true, true, true, true, false, false, false, false] rfl rfl (by kernel_rfl) (fun _ _ _ h => h) (Or.inl ⟨by rfl, ?_⟩) ?_ ?_
            rotate_left
            · intro w'
              go_simp
              with_reducible rfl
            rotate_left
            · simp only [Act.put, List.setIfInBounds_toArray, List.set_cons_zero, List.set_cons_succ, i64_w, i32_w]
              rfl
            refine pure_ (i := 14) (N := some 51) (v := ?_) (a' := ?_) #[true, true, true, true, true, true, true, true, true, true, true, true, true, true, true, false, false, false] rfl rfl (by kernel_rfl) (fun _ _ _ h => h) (Or.inl ⟨by rfl, ?_⟩) ?_ ?_
            rotate_left
            · intro w'
              go_simp
              with_reducible rfl
            rotate_left
            · simp only [Act.put, List.setIfInBounds_toArray, List.set_cons_zero, List.set_cons_succ, i64_w, i32_w]
              rfl
            refine last_ (i := 15) (N := none) #[true, true, true, true, true, true, true, true, true, true, true, true, true, true, true, true, false, false] rfl rfl (by kernel_rfl) (by decide) (fun K hK => ?_)
            have hf0 : w5.frozen? ⟨g, j + 1, none⟩ = false := free_of_blk HG5.out (j + 1)
            refine skip_ (w1 := w5.drew.setCell ⟨g, j + 1, none⟩ (.int .i64 y)) (by rfl) rfl ?_ ?_
            · go_simp
            refine hK.out _ _ ?_
            clear hK K hHeld
            obtain ⟨w6, hw6⟩ : ∃ w6, w5.drew.setCell ⟨g, j + 1, none⟩ (.int .i64 y) = w6 := ⟨_, rfl⟩
            have hg6 : w6.heap[g]? = some (.cells (intsR (zs.set (j + 1) y) rest) 3 (0, 0)) := by
              have h := hb_set (show w5.drew.heap[g]? = _ from HG5.out) (j + 1) (.int .i64 y)
              rw [intsR_set _ _ _ HJZ.out, hw6] at h
              exact h
            have hch6 : Chg (fun q => q = g) X w6 := by
              rw [← hw6]
              exact (HCH.out.trans (Chg.drew _) (fun _ _ h => h)).trans (Chg.set _ ⟨g, j + 1, none⟩ _ rfl : Chg (fun q => q = g) w5.drew _) (fun _ _ h => h)
            rw [hw6]
            have hl6 : j < (zs.set (j + 1) y).length := by rw [List.length_set]; have := HJZ.out; omega
            have hc6 : w6.cell? ⟨g, j, none⟩ = some (.int .i64 ((zs.set (j + 1) y).getD j 0)) := (cells_of_blk hg6 j).trans (intsR_get _ _ _ hl6)
            have hf6 : w6.frozen? ⟨g, j, none⟩ = false := free_of_blk hg6 j
            clear hw6 hf0 hcx hcy
            refine pure_ (i := 16) (N := some 52) (v := ?_) (a' := ?_) #[true, true, true, true, true, true, true, true, true, true, true, true, true, true, true, true, true, false] rfl rfl (by kernel_rfl) (fun _ _ _ h => h) (Or.inl ⟨by rfl, ?_⟩) ?_ ?_
            rotate_left
            · intro w'
              go_simp
              with_reducible rfl
            rotate_left
            · simp only [Act.put, List.setIfInBounds_toArray, List.set_cons_zero, List.set_cons_succ, i64_w, i32_w]
              rfl
            refine last_ (i := 17) (N := none) #[true, true, true, true, true, true, true, true, true, true, true, true, true, true, true, true, true, true] rfl rfl (by kernel_rfl) (by decide) (fun K hK => ?_)
            refine skip_ (w1 := w6.setCell ⟨g, j, none⟩ (.int .i64 x)) (by rfl) rfl ?_ ?_
            · go_simp
            refine hK.out _ _ (done_ (by kernel_rfl) ?_)
            clear hK K
            have HFIN := Aside0.mk (show (w6.setCell ⟨g, j, none⟩ (.int .i64 x)).heap[g]? = some (.cells (intsR (swpL zs j) rest) 3 (0, 0)) ∧ Chg (fun q => q = g) X (w6.setCell ⟨g, j, none⟩ (.int .i64 x)) by
              have h := hb_set hg6 j (.int .i64 x)
              rw [intsR_set _ _ _ hl6] at h
              refine ⟨?_, hch6.trans (Chg.set _ ⟨g, j, none⟩ _ rfl : Chg (fun q => q = g) w6 _) (fun _ _ h => h)⟩
              unfold swpL
              rw [HXY.out.1, HXY.out.2]
              exact h)
            have HZ := Aside0.mk (And.intro ((swpL_len zs j).trans HBB.out.2.2.1) (swpL_ok HBB.out.2.2.2.1 j HJZ.out))
            clear hg6 hch6 hl6 hc6 hf6 r0 r1 r2 r3 r4 r5 haj
            go_wp2
            go_roundg j
            case measure => omega
            case rel => exact ⟨j, swpL zs j, by first | rfl | (simp; done) | (simp; exact hw0), rfl, ⟨by have := HBB.out.1; omega, HSW.out, HZ.out.1, HZ.out.2, HFIN.out.1, HFIN.out.2⟩⟩
          · have f1 : decide (cv < 0) = false := decide_eq_false hc
            have HFIN := Aside0.mk (show w5.heap[g]? = some (.cells (intsR (insN (ltR sc names) a (d + 1) xs) rest) 3 (0, 0)) ∧ Chg (fun q => q = g) X w5 by
              rw [HNX.out, ← HBB.out.2.1, HST.out, if_neg (by rw [HLTR.out, f1]; simp)]
              exact ⟨HG5.out, HCH.out⟩)
            simp only [f1]
            clear hc
            go_wp2
            go_roundg k1
            case measure => omega
            case rel => exact ⟨d + 1, by first | (rw [HIE.out.symm]; simp; omega) | done, by omega, ⟨HFIN.out.1, HFIN.out.2⟩⟩
        · have hend : insJ (ltR sc names) a gk zs = zs := by
            cases gk with
            | zero => rfl
            | succ j => unfold insJ; rw [if_neg (fun h => haj h.1)]
          have c1 : decide ((gk : Int) > (a : Int)) = false := decide_eq_false (by omega)
          have c2 : decide (gk > a) = false := decide_eq_false haj
          have c3 : decide ((a : Int) < (gk : Int)) = false := decide_eq_false (by omega)
          have c4 : decide (a < gk) = false := decide_eq_false haj
          have HFIN := Aside0.mk (show wr.heap[g]? = some (.cells (intsR (insN (ltR sc names) a (d + 1) xs) rest) 3 (0, 0)) ∧ Chg (fun q => q = g) X wr by
            rw [HNX.out, ← hB.out.2.1, hend]
            exact ⟨hB.out.2.2.2.2.1, hB.out.2.2.2.2.2⟩)
          clear hend haj
          go_upto_region 4 with (fail)
          refine start_ (n := 17) (S := fun X => True) (ds := ([] : List Nat)) #[false, false, false, false, false, false, false, false, false, false, false, false, false, false, false, false, false] (by kernel_rfl) rfl rfl (trivial) (fun hHeld => ?_)
          refine pure_ (i := 0) (N := some 18) (v := ?_) (a' := ?_) #[true, false, false, false, false, false, false, false, false, false, false, false, false, false, false, false, false] rfl rfl (by kernel_rfl) (fun _ _ _ h => h) (Or.inl ⟨by rfl, ?_⟩) ?_ ?_
          rotate_left
          · intro w'
            go_simp
            with_reducible rfl
          rotate_left
          · simp only [Act.put, List.setIfInBounds_toArray, List.set_cons_zero, List.set_cons_succ, i64_w, i32_w]
            rfl
          refine pure_ (i := 1) (N := some 19) (v := ?_) (a' := ?_) #[true, true, false, false, false, false, false, false, false, false, false, false, false, false, false, false, false] rfl rfl (by kernel_rfl) (fun _ _ _ h => h) (Or.inl ⟨by rfl, ?_⟩) ?_ ?_
          rotate_left
          · intro w'
            go_simp
            with_reducible rfl
          rotate_left
          · simp only [Act.put, List.setIfInBounds_toArray, List.set_cons_zero, List.set_cons_succ, i64_w, i32_w]
            rfl
          refine pure_ (i := 2) (N := some 20) (v := ?_) (a' := ?_) #[true, true, true, false, false, false, false, false, false, false, false, false, false, false, false, false, false] rfl rfl (by kernel_rfl) (fun _ _ _ h => h) (Or.inl ⟨by rfl, ?_⟩) ?_ ?_
          rotate_left
          · intro w'
            go_simp
            with_reducible rfl
          rotate_left
          · simp only [Act.put, List.setIfInBounds_toArray, List.set_cons_zero, List.set_cons_succ, i64_w, i32_w]
            rfl
          refine pure_ (i := 3) (N := some 21) (v := ?_) (a' := ?_) #[true, true, true, true, false, false, false, false, false, false, false, false, false, false, false, false, false] rfl rfl (by kernel_rfl) (fun _ _ _ h => h) (Or.inl ⟨by rfl, ?_⟩) ?_ ?_
          rotate_left
          · intro w'
            go_simp
            with_reducible rfl
          rotate_left
          · simp only [Act.put, List.setIfInBounds_toArray, List.set_cons_zero, List.set_cons_succ, i64_w, i32_w]
            rfl
          refine pure_ (i := 4) (N := some 22) (v := undef) (a' := ?_) #[true, true, true, true, true, false, false, false, false, false, false, false, false, false, false, false, false] rfl rfl (by kernel_rfl) (fun _ _ _ h => h) (Or.inr ⟨by rfl, rfl⟩) ?_ ?_
          rotate_left
          · simp only [Act.put, List.setIfInBounds_toArray, List.set_cons_zero, List.set_cons_succ, i64_w, i32_w]
            rfl
          refine pure_ (i := 5) (N := some 23) (v := undef) (a' := ?_) #[true, true, true, true, true, true, false, false, false, false, false, false, false, false, false, false, false] rfl rfl (by kernel_rfl) (fun _ _ _ h => h) (Or.inr ⟨by rfl, rfl⟩) ?_ ?_
          rotate_left
          · simp only [Act.put, List.setIfInBounds_toArray, List.set_cons_zero, List.set_cons_succ, i64_w, i32_w]
            rfl
          refine pure_ (i := 6) (N := some 24) (v := undef) (a' := ?_) #[true, true, true, true, true, true, true, false, false, false, false, false, false, false, false, false, false] rfl rfl (by kernel_rfl) (fun _ _ _ h => h) (Or.inr ⟨by rfl, rfl⟩) ?_ ?_
          rotate_left
          · simp only [Act.put, List.setIfInBounds_toArray, List.set_cons_zero, List.set_cons_succ, i64_w, i32_w]
            rfl
          refine pure_ (i := 7) (N := some 25) (v := undef) (a' := ?_) #[true, true, true, true, true, true, true, true, false, false, false, false, false, false, false, false, false] rfl rfl (by kernel_rfl) (fun _ _ _ h => h) (Or.inr ⟨by rfl, rfl⟩) ?_ ?_
          rotate_left
          · simp only [Act.put, List.setIfInBounds_toArray, List.set_cons_zero, List.set_cons_succ, i64_w, i32_w]
            rfl
          refine pure_ (i := 8) (N := some 26) (v := undef) (a' := ?_) #[true, true, true, true, true, true, true, true, true, false, false, false, false, false, false, false, false] rfl rfl (by kernel_rfl) (fun _ _ _ h => h) (Or.inr ⟨by rfl, rfl⟩) ?_ ?_
          rotate_left
          · simp only [Act.put, List.setIfInBounds_toArray, List.set_cons_zero, List.set_cons_succ, i64_w, i32_w]
            rfl
          refine pure_ (i := 9) (N := some 27) (v := undef) (a' := ?_) #[true, true, true, true, true, true, true, true, true, true, false, false, false, false, false, false, false] rfl rfl (by kernel_rfl) (fun _ _ _ h => h) (Or.inr ⟨by rfl, rfl⟩) ?_ ?_
          rotate_left
          · simp only [Act.put, List.setIfInBounds_toArray, List.set_cons_zero, List.set_cons_succ, i64_w, i32_w]
            rfl
          refine pure_ (i := 10) (N := some 28) (v := undef) (a' := ?_) #[true, true, true, true, true, true, true, true, true, true, true, false, false, false, false, false, false] rfl rfl (by kernel_rfl) (fun _ _ _ h => h) (Or.inr ⟨by rfl, rfl⟩) ?_ ?_
          rotate_left
          · simp only [Act.put, List.setIfInBounds_toArray, List.set_cons_zero, List.set_cons_succ, i64_w, i32_w]
            rfl
          refine pure_ (i := 11) (N := some 29) (v := undef) (a' := ?_) #[true, true, true, true, true, true, true, true, true, true, true, true, false, false, false, false, false] rfl rfl (by kernel_rfl) (fun _ _ _ h => h) (Or.inr ⟨by rfl, rfl⟩) ?_ ?_
          rotate_left
          · simp only [Act.put, List.setIfInBounds_toArray, List.set_cons_zero, List.set_cons_succ, i64_w, i32_w]
            rfl
          refine pure_ (i := 12) (N := some 30) (v := undef) (a' := ?_) #[true, true, true, true, true, true, true, true, true, true, true, true, true, false, false, false, false] rfl rfl (by kernel_rfl) (fun _ _ _ h => h) (Or.inr ⟨by rfl, rfl⟩) ?_ ?_
          rotate_left
          · simp only [Act.put, List.setIfInBounds_toArray, List.set_cons_zero, List.set_cons_succ, i64_w, i32_w]
            rfl
          refine pure_ (i := 13) (N := some 31) (v := undef) (a' := ?_) #[true, true, true, true, true, true, true, true, true, true, true, true, true, true, false, false, false] rfl rfl (by kernel_rfl) (fun _ _ _ h => h) (Or.inr ⟨by rfl, rfl⟩) ?_ ?_
          rotate_left
          · simp only [Act.put, List.setIfInBounds_toArray, List.set_cons_zero, List.set_cons_succ, i64_w, i32_w]
            rfl
          refine pure_ (i := 14) (N := some 32) (v := undef) (a' := ?_) #[true, true, true, true, true, true, true, true, true, true, true, true, true, true, true, false, false] rfl rfl (by kernel_rfl) (fun _ _ _ h => h) (Or.inr ⟨by rfl, rfl⟩) ?_ ?_
          rotate_left
          · simp only [Act.put, List.setIfInBounds_toArray, List.set_cons_zero, List.set_cons_succ, i64_w, i32_w]
            rfl
          refine pure_ (i := 15) (N := some 33) (v := undef) (a' := ?_) #[true, true, true, true, true, true, true, true, true, true, true, true, true, true, true, true, false] rfl rfl (by kernel_rfl) (fun _ _ _ h => h) (Or.inr ⟨by rfl, rfl⟩) ?_ ?_
          rotate_left
          · simp only [Act.put, List.setIfInBounds_toArray, List.set_cons_zero, List.set_cons_succ, i64_w, i32_w]
            rfl
          refine pure_ (i := 16) (N := some 34) (v := ?_) (a' := ?_) #[true, true, true, true, true, true, true, true, true, true, true, true, true, true, true, true, true] rfl rfl (by kernel_rfl) (fun _ _ _ h => h) (Or.inl ⟨by rfl, ?_⟩) ?_ ?_
          rotate_left
          · intro w'
            go_simp
            with_reducible rfl
          rotate_left
          · simp only [Act.put, List.setIfInBounds_toArray, List.set_cons_zero, List.set_cons_succ, i64_w, i32_w]
            rfl
          refine done_ (by kernel_rfl) ?_
          clear hHeld
          go_wp2
          go_roundg k1
          case measure => omega
          case rel => exact ⟨d + 1, by first | (rw [HIE.out.symm]; simp; omega) | done, by omega, ⟨HFIN.out.1, HFIN.out.2.trans (Chg.drew _) (fun _ _ h => h)⟩⟩
end
section
open Go.Lib Go.Shelf Go.Proofs.Ytpkdgdhfhgelbaa.Hand Go.Proofs.Ytpkdgdhfhgelbaa.Aid
set_option maxRecDepth 100000 in
set_option maxHeartbeats 16000000 in
theorem insNil_calls (F : Value) (X : World) : Calls Try.prog 32 #[.slice none 0 0, .int .i64 0, .int .i64 0, F] X fun e X' => (∃ v, e = .returned v) ∧ Below X.heap.size X X' := by
  go_enter Try.func32, Try.ntmps32
  go_wp2
  go_loopg [8] 1 (fun kq v8 W => v8 = .int .i64 1 ∧ Aside0 (Below X.heap.size X W))
  case atStart => exact ⟨rfl, ⟨Below.refl _ _⟩⟩
  case round =>
    obtain ⟨rfl, hA⟩ := hrel
    go_wp2
    go_end0
    exact ⟨⟨_, rfl⟩, hA.out⟩
set_option maxRecDepth 100000 in
set_option maxHeartbeats 16000000 in
theorem stableNil_calls (F : Value) (X : World) : Calls Try.prog 26 #[.slice none 0 0, .int .i64 0, F] X fun e X' => (∃ v, e = .returned v) ∧ Below X.heap.size X X' := by
  go_enter Try.func26, Try.ntmps26
  go_wp2
  go_loopg [7, 8] 1 (fun kq v7 v8 W => v7 = .int .i64 0 ∧ v8 = .int .i64 20 ∧ Aside0 (Below X.heap.size X W))
  case atStart => exact ⟨rfl, rfl, ⟨Below.refl _ _⟩⟩
  case round =>
    obtain ⟨rfl, rfl, hA⟩ := hrel
    go_wp2_with (first | (go_at_call 32; refine (insNil_calls _ _).mono ?_; rintro e w2 ⟨⟨v2, rfl⟩, hb2⟩; have HB2 := Aside0.mk hb2; clear hb2))
    go_loopg [6] 1 (fun kq v6 W => v6 = .int .i64 20 ∧ Aside0 (Below X.heap.size X W))
    case atStart => exact ⟨rfl, ⟨hA.out.trans (HB2.out.mono hA.out.size)⟩⟩
    case round =>
      obtain ⟨rfl, hB⟩ := hrel
      go_wp2
      go_end0
      exact ⟨⟨_, rfl⟩, hB.out⟩
set_option maxRecDepth 100000 in
set_option maxHeartbeats 16000000 in
theorem stable_calls (w : World) (g s2 sb s3 cp : Nat) (sc : List Int) (names : List ByteArray) (xs : List Int) (rest : List Value) (X : World) (hG : RankG w g s2 sb s3 sc names X) (hr : X.heap[g]? = some (.cells (intsR xs rest) 3 (0, 0)))
    (hok : okL names.length xs) (hl : xs.length < 20) :
    Calls Try.prog 26 #[.slice (some ⟨g, 0, none⟩) xs.length cp, .int .i64 (xs.length : Int), .func (.func 17) #[] #[.pointer (some ⟨s2, 0, none⟩), .pointer (some ⟨s3, 0, none⟩)]] X fun e X' =>
      (∃ v, e = .returned v) ∧ X'.heap[g]? = some (.cells (intsR (insN (ltR sc names) 0 (xs.length - 1) xs) rest) 3 (0, 0)) ∧ Chg (fun q => q = g) X X' := by
  have HI := Aside0.mk (insertion_calls w g s2 sb s3 cp sc names xs rest 0 xs.length X hG hr hok (Nat.le_refl _) (by omega) (by omega))
  rw [show xs.length - (0 + 1) = xs.length - 1 from rfl] at HI
  have HR := Aside0.mk (And.intro hr hl)
  have c1 : decide ((20 : Int) ≤ (xs.length : Int)) = false := decide_eq_false (by omega)
  have c2 : decide (20 ≤ xs.length) = false := decide_eq_false (by omega)
  have c3 : decide ((20 : Int) < (xs.length : Int)) = false := decide_eq_false (by omega)
  have c4 : decide (20 < xs.length) = false := decide_eq_false (by omega)
  clear hG hr hok hl
  go_enter Try.func26, Try.ntmps26
  go_wp2
  go_loopg [7, 8] 1 (fun kq v7 v8 W => v7 = .int .i64 0 ∧ v8 = .int .i64 20 ∧ Aside0 (W = X))
  case atStart => exact ⟨rfl, rfl, ⟨rfl⟩⟩
  case round =>
    obtain ⟨rfl, rfl, hA⟩ := hrel
    obtain rfl := hA.out
    go_wp2_with (first | (go_at_call 32; refine HI.out.mono ?_; rintro e w2 ⟨⟨v2, rfl⟩, hg2, hc2⟩; have HG2 := Aside0.mk (And.intro hg2 hc2); clear hg2 hc2))
    go_loopg [6] 1 (fun kq v6 W => v6 = .int .i64 20 ∧ Aside0 (W = w2))
    case atStart => exact ⟨rfl, ⟨rfl⟩⟩
    case round =>
      obtain ⟨rfl, hB⟩ := hrel
      obtain rfl := hB.out
      go_wp2
      go_end0
      exact ⟨⟨_, rfl⟩, HG2.out⟩
set_option maxRecDepth 100000 in
set_option maxHeartbeats 16000000 in
theorem sortStable_calls (w : World) (g s2 sb s3 cp : Nat) (sc : List Int) (names : List ByteArray) (xs : List Int) (rest : List Value) (X : World) (hG : RankG w g s2 sb s3 sc names X) (hr : X.heap[g]? = some (.cells (intsR xs rest) 3 (0, 0)))
    (hok : okL names.length xs) (hl : xs.length < 20) :
    Calls Try.prog 16 #[.slice (some ⟨g, 0, none⟩) xs.length cp, .func (.func 17) #[] #[.pointer (some ⟨s2, 0, none⟩), .pointer (some ⟨s3, 0, none⟩)]] X fun e X' =>
      (∃ v, e = .returned v) ∧ X'.heap[g]? = some (.cells (intsR (insN (ltR sc names) 0 (xs.length - 1) xs) rest) 3 (0, 0)) ∧ Chg (fun q => q = g) X X' := by
  have HI := Aside0.mk (stable_calls w g s2 sb s3 cp sc names xs rest X hG hr hok hl)
  clear hG hr hok hl
  go_enter Try.func16, Try.ntmps16
  go_wp2_with (first | (go_at_call 26; refine HI.out.mono ?_; rintro e w2 ⟨⟨v2, rfl⟩, hg2, hc2⟩; have HG2 := Aside0.mk (And.intro hg2 hc2); clear hg2 hc2))
  go_end0
  exact ⟨⟨_, rfl⟩, HG2.out⟩
set_option maxRecDepth 100000 in
set_option maxHeartbeats 16000000 in
theorem sortStableNil_calls (F : Value) (X : World) : Calls Try.prog 16 #[.slice none 0 0, F] X fun e X' => (∃ v, e = .returned v) ∧ Below X.heap.size X X' := by
  go_enter Try.func16, Try.ntmps16
  go_wp2_with (first | (go_at_call 26; refine (stableNil_calls _ _).mono ?_; rintro e w2 ⟨⟨v2, rfl⟩, hb2⟩; have HB2 := Aside0.mk hb2; clear hb2))
  go_end0
  exact ⟨⟨_, rfl⟩, HB2.out⟩
end
section
open Go.Lib Go.Shelf Go.Proofs.Ytpkdgdhfhgelbaa.Hand Go.Proofs.Ytpkdgdhfhgelbaa.Aid
theorem intsR_encs (xs : List Int) (rest : List Value) : (intsR xs rest).toList = xs.map (Value.int .i64) ++ rest := by unfold intsR; rw [List.toList_toArray]
theorem R_open {W : World} {base : Nat} {v : Value} {xs : List Int} (h : Kd.R (Kd.int .i64) 3 W base (fun _ => True) v xs) : (v = .slice none 0 0 ∧ xs = []) ∨
    ∃ g cap rest, v = .slice (some ⟨g, 0, none⟩) xs.length cap ∧ base ≤ g ∧ W.heap[g]? = some (.cells (intsR xs rest) 3 (0, 0)) ∧
      ∀ (W' : World) (xs' : List Int), xs'.length = xs.length → W'.heap[g]? = some (.cells (intsR xs' rest) 3 (0, 0)) → Kd.R (Kd.int .i64) 3 W' base (fun _ => True) (.slice (some ⟨g, 0, none⟩) xs'.length cap) xs' := by
  obtain ⟨h1, h2⟩ := Kd.own_of_R h
  rcases h2 with ⟨rfl, h3⟩ | ⟨g, cap, cur, rfl, hb, hh, hc, hm, hs, ht⟩
  · exact .inl ⟨rfl, List.eq_nil_of_length_eq_zero h3⟩
  · refine .inr ⟨g, cap, cur.toList.drop xs.length, rfl, hb, ?_, fun W' xs' hl hW' => ?_⟩
    · rw [hh]
      congr 2
      apply Array.ext'
      rw [intsR_encs]
      rw [Nat.mul_one] at ht
      have e : xs.map (Value.int .i64) = cur.toList.take xs.length := by rw [ht]; rfl
      rw [e, List.take_append_drop]
    · rw [Nat.mul_one] at hs
      refine Kd.R_of_own ⟨?_, .inr ⟨g, cap, intsR xs' (cur.toList.drop xs.length), rfl, hb, hW', by rw [hl]; exact hc, hm, ?_, ?_⟩⟩ (fun _ _ => trivial)
      · simp [encs]
      · rw [Nat.mul_one]
        unfold intsR
        simp only [List.size_toArray, List.length_append, List.length_map, List.length_drop, Array.length_toList]
        omega
      · rw [Nat.mul_one, intsR_encs, List.take_append_of_le_length (by simp), List.take_of_length_le (by simp)]
        rfl
/-! ### what the code computes -/
def nmAt (names : List ByteArray) (i : Nat) : ByteArray := rdOf ByteArray.empty names (i : Int)
def okAt (p : ByteArray) (names : List ByteArray) (i : Nat) : Bool := (scoreP p (nmAt names i)).2.2
/-- The matches below i. -/
def mtK (p : ByteArray) (names : List ByteArray) (i : Nat) : List Int := ((List.range i).filter (okAt p names)).map (fun j : Nat => (j : Int))
def scAt (p : ByteArray) (names : List ByteArray) (j : Nat) : Int := if okAt p names j = true then (scoreP p (nmAt names j)).1 else 0
/-- The scores when i names have been asked. -/
def scK (p : ByteArray) (names : List ByteArray) (i : Nat) : List Int := (List.range names.length).map (fun j => if j < i then scAt p names j else 0)
theorem mtK_succ (p : ByteArray) (names : List ByteArray) (i : Nat) : mtK p names (i + 1) = if okAt p names i = true then mtK p names i ++ [(i : Int)] else mtK p names i := by
  unfold mtK
  rw [List.range_succ, List.filter_append, List.map_append]
  by_cases h : okAt p names i = true
  · rw [if_pos h]; simp [h]
  · rw [if_neg h]; simp [h]
theorem mtK_len (p : ByteArray) (names : List ByteArray) (i : Nat) : (mtK p names i).length ≤ i := by
  unfold mtK
  rw [List.length_map]
  exact Nat.le_trans (List.length_filter_le _ _) (by simp)
theorem mtK_ok (p : ByteArray) (names : List ByteArray) (i n : Nat) (h : i ≤ n) : okL n (mtK p names i) := by
  intro x hx
  unfold mtK at hx
  obtain ⟨j, hj, rfl⟩ := List.mem_map.1 hx
  have := List.mem_range.1 (List.mem_filter.1 hj).1
  omega
theorem scK_len (p : ByteArray) (names : List ByteArray) (i : Nat) : (scK p names i).length = names.length := by unfold scK; simp
theorem scK_zero (p : ByteArray) (names : List ByteArray) : scK p names 0 = List.replicate names.length 0 := by
  unfold scK
  apply List.ext_getElem
  · simp
  · intro i h1 h2; simp
theorem scK_succ (p : ByteArray) (names : List ByteArray) (i : Nat) (h : i < names.length) : scK p names (i + 1) = (scK p names i).set i (scAt p names i) := by
  unfold scK
  apply List.ext_getElem
  · simp
  · intro j h1 h2
    rw [List.getElem_set]
    simp only [List.getElem_map, List.getElem_range]
    by_cases c : i = j
    · subst c; simp
    · rw [if_neg c]
      by_cases d : j < i
      · rw [if_pos d, if_pos (by omega)]
      · rw [if_neg d, if_neg (by omega)]
theorem scK_skip (p : ByteArray) (names : List ByteArray) (i : Nat) (h : i < names.length) (hn : okAt p names i = false) : scK p names (i + 1) = scK p names i := by
  rw [scK_succ p names i h]
  have : scAt p names i = 0 := by unfold scAt; rw [hn]; rfl
  rw [this]
  apply List.ext_getElem?
  intro j
  rw [List.getElem?_set]
  by_cases c : i = j
  · subst c
    rw [if_pos rfl, if_pos (by rw [scK_len]; exact h)]
    unfold scK
    simp [h]
  · rw [if_neg c]
def rankP (p : ByteArray) (names : List ByteArray) : Option (List Int × Int) :=
  if names.length > 200 then some ([], 2) else
    if (mtK p names names.length).length < 20 then some (insN (ltR (scK p names names.length) names) 0 ((mtK p names names.length).length - 1) (mtK p names names.length), 0) else none
theorem made_zero (n : Nat) : madeCells #[.int .i64 0] n = ints (List.replicate n 0) := by
  rw [made_int 0 n]
  unfold filled
  rw [List.replicate_zero, List.nil_append, Nat.sub_zero]
/-- Between two rounds: the boxes, the scores. -/
structure RnkI (w : World) (b : Nat) (A : Option Addr) (c : Nat) (p : ByteArray) (names : List ByteArray) (i : Nat) (W : World) : Prop where
  b0 : W.heap[b]? = some (.cells #[.slice A names.length c] 29 (0, 0))
  b1 : W.heap[b + 1]? = some (.cells (ints (scK p names i)) 3 (0, 0))
  b2 : W.heap[b + 2]? = some (.cells #[.slice (some ⟨b + 1, 0, none⟩) names.length names.length] 23 (0, 0))
  bel : Below b w W
set_option maxRecDepth 100000 in
set_option maxHeartbeats 16000000 in
theorem rank_calls (p : ByteArray) (A : Option Addr) (c : Nat) (names : List ByteArray) (w : World) (r1 : List Int) (r2 : Int) (hr : Kd.C Kd.string w A names.length names) (hc : names.length ≤ c) (h : rankP p names = some (r1, r2)) :
    Calls Try.prog 10 #[.string p, .slice A names.length c] w fun e w' => ∃ v, e = .returned (.tuple #[v, .int .i64 r2]) ∧ Kd.R (Kd.int .i64) 3 w' w.heap.size (fun _ => True) v r1 ∧ Below w.heap.size w w' := by
  obtain ⟨b, hb⟩ : ∃ b, w.heap.size = b := ⟨_, rfl⟩
  have HRN := Aside0.mk hr
  by_cases hn : names.length > 200
  · have hF : rankP p names = some ([], 2) := by unfold rankP; rw [if_pos hn]
    rw [hF] at h
    obtain ⟨rfl, rfl⟩ := Prod.mk.inj (Option.some.inj h)
    have c1 : decide ((names.length : Int) > 200) = true := decide_eq_true (by omega)
    have c2 : decide (names.length > 200) = true := decide_eq_true hn
    have c3 : decide ((200 : Int) < (names.length : Int)) = true := decide_eq_true (by omega)
    have c4 : decide (200 < names.length) = true := decide_eq_true hn
    clear h hF hr hc hn hb
    go_enter Try.func10, Try.ntmps10
    go_wp2
    go_ret2
    exact ⟨_, rfl, Kd.R_nil _ _ _ _ _, below_alloc (Below.refl _ _) _⟩
  have c1 : decide ((names.length : Int) > 200) = false := decide_eq_false (by omega)
  have c2 : decide (names.length > 200) = false := decide_eq_false hn
  have c3 : decide ((200 : Int) < (names.length : Int)) = false := decide_eq_false (by omega)
  have c4 : decide (200 < names.length) = false := decide_eq_false hn
  have HN := Aside0.mk (show names.length ≤ 200 by omega)
  have HF := Aside0.mk h
  have hmk : ∀ W : World, (Instr.makeSlice 23 (.int .i64 (names.length : Int)) (.int .i64 (names.length : Int))).run Try.prog W = .ok (.slice (some ⟨W.heap.size, 0, none⟩) names.length names.length) (W.alloc (.cells (madeCells #[.int .i64 0] (names.length * 1)) 3)) := fun W => by
    obtain ⟨i, h1, h2, h3, h4⟩ := inf3
    have h := run_makeSlice (P := Try.prog) (w := W) 23 3 i (.int .i64 0) Try.underlying23 h1 h2 .i64 .i64 (names.length : Int) (names.length : Int) (by omega) (by omega) (by rw [h3]; simp; omega) (by rw [h4]; omega) (by omega)
    rw [h3] at h
    exact h
  clear h hr hn
  go_enter Try.func10, Try.ntmps10
  go_upto_region 4 with (fail)
  clear c1 c2 c3 c4 hmk
  try simp only [hb]
  simp only [show b + 1 + 1 = b + 2 from rfl]
  obtain ⟨W1, hW1⟩ : ∃ W1, ((w.alloc (.cells #[.slice A names.length c] 29)).alloc (.cells (madeCells #[.int .i64 0] names.length) 3)).alloc (.cells #[.slice (some ⟨b + 1, 0, none⟩) names.length names.length] 23) = W1 := ⟨_, rfl⟩
  rw [hW1]
  have hI1 : RnkI w b A c p names 0 W1 := by
    rw [← hW1]
    refine ⟨?_, ?_, ?_, ?_⟩
    · rw [← hb]; exact hb_alloc (hb_alloc (hb_new _ _))
    · have := hb_new (w.alloc (.cells #[.slice A names.length c] 29)) (.cells (madeCells #[.int .i64 0] names.length) 3)
      rw [World.size_alloc, hb, made_zero, ← scK_zero p names] at this
      rw [made_zero, ← scK_zero p names]
      exact hb_alloc this
    · have := hb_new ((w.alloc (.cells #[.slice A names.length c] 29)).alloc (.cells (madeCells #[.int .i64 0] names.length) 3)) (.cells #[.slice (some ⟨b + 1, 0, none⟩) names.length names.length] 23)
      rw [World.size_alloc, World.size_alloc, hb] at this
      exact this
    · rw [← hb]; exact below_alloc (below_alloc (below_alloc (Below.refl _ _) _) _) _
  have HI1 := Aside0.mk hI1
  have x3 := cell_of_blk hI1.b0
  clear hI1 hW1
  go_wp2
  clear x3
  go_loopg [7, 21] names.length (fun kq v7 v21 W => ∃ (i : Nat) (A7 : Option Addr) (c7 : Nat), v7 = .slice A7 (mtK p names i).length c7 ∧ v21 = .int .i64 (i : Int) ∧ kq + i = names.length ∧ Aside0 (RnkI w b A c p names i W ∧ Kd.R (Kd.int .i64) 3 W (b + 3) (fun _ => True) (.slice A7 (mtK p names i).length c7) (mtK p names i)))
  case atStart => exact ⟨0, none, 0, rfl, rfl, by omega, ⟨HI1.out, Kd.R_nil _ _ _ _ _⟩⟩
  case round =>
    obtain ⟨i, A7, c7, rfl, rfl, hi, hA⟩ := hrel
    cases gk with
    | zero =>
      have hin : i = names.length := by omega
      subst hin
      have c1 : decide ((names.length : Int) < (names.length : Int)) = false := decide_eq_false (by omega)
      have c2 : decide (names.length < names.length) = false := decide_eq_false (by omega)
      clear hi
      have hfl := HF.out
      unfold rankP at hfl
      rw [if_neg (by have := HN.out; omega)] at hfl
      by_cases hm20 : (mtK p names names.length).length < 20
      case neg => rw [if_neg hm20] at hfl; cases hfl
      rw [if_pos hm20] at hfl
      obtain ⟨hr1, hr2⟩ := Prod.mk.inj (Option.some.inj hfl)
      subst hr2
      have hI := hA.out.1
      have hok := mtK_ok p names names.length names.length (Nat.le_refl _)
      have hsl := scK_len p names names.length
      obtain ⟨sc, hsc⟩ : ∃ sc, scK p names names.length = sc := ⟨_, rfl⟩
      have HIb := Aside0.mk hI.bel
      have h1 := hI.b1
      have h2 := hI.b2
      rw [hsc] at hsl h1 hr1
      obtain ⟨ms, hms⟩ : ∃ ms, mtK p names names.length = ms := ⟨_, rfl⟩
      have hR := hA.out.2
      rw [hms] at hR hok hm20 hr1
      have HR1 := Aside0.mk hr1
      simp only [hms]
      have H0 := Aside0.mk hI.b0
      have H1 := Aside0.mk h1
      have H2 := Aside0.mk h2
      have HSL := Aside0.mk hsl
      clear hfl hI h1 h2 hsl hsc hms hA hr1
      rcases R_open hR with ⟨hv, he⟩ | ⟨g, cap, rest, hv, hgb, hgh, hcl⟩
      · injection hv with ha hb' hc'
        subst ha
        subst he
        subst hc'
        clear hR hok hm20
        go_wp2_with (first | (go_at_call 16; refine (sortStableNil_calls _ _).mono ?_; rintro e w5 ⟨⟨v5, rfl⟩, hb5⟩; have HB5 := Aside0.mk hb5; clear hb5))
        go_ret2
        rw [← HR1.out]
        exact ⟨_, rfl, Kd.R_nil _ _ _ _ _, by rw [hb]; exact HIb.out.trans (HB5.out.mono (by have := lt_of_blk H0.out; omega))⟩
      · injection hv with ha hb' hc'
        subst ha
        subst hc'
        have hG : RankG w g (b + 2) (b + 1) b sc names wr := ⟨by rw [HSL.out]; exact H2.out, H1.out, ⟨A, c, H0.out, HRN.out⟩, HSL.out, by rw [hb]; exact HIb.out, by omega, by omega, by omega, by omega⟩
        have HST := Aside0.mk (sortStable_calls w g (b + 2) (b + 1) b c7 sc names ms rest wr hG hgh hok hm20)
        have HCL := Aside0.mk hcl
        have HGB := Aside0.mk hgb
        clear hR hok hm20 hG hgh hcl hgb
        go_wp2_with (first | (go_at_call 16; refine HST.out.mono ?_; rintro e w5 ⟨⟨v5, rfl⟩, hg5, hc5⟩; have HG5 := Aside0.mk (And.intro hg5 hc5); clear hg5 hc5))
        go_ret2
        refine ⟨_, rfl, ?_, ?_⟩
        · rw [← HR1.out]
          have h := HCL.out w5 _ (insN_len _ _ _ _) HG5.out.1
          rw [insN_len] at h
          exact Kd.R_lower h (by omega)
        · rw [hb]
          exact HIb.out.trans (HG5.out.2.to_below (fun q _ hq => by have := HGB.out; omega) (by have := lt_of_blk H0.out; omega))
    | succ k1 =>
      have hin : i < names.length := by omega
      have c1 : decide ((i : Int) < (names.length : Int)) = true := decide_eq_true (by omega)
      have c2 : decide (i < names.length) = true := decide_eq_true hin
      obtain ⟨ad, rfl, xn⟩ := Kd.at_string (Kd.C_below HRN.out (by rw [hb]; exact hA.out.1.bel)) (i : Int) (by omega) (by omega)
      rw [Int.toNat_natCast] at xn
      obtain ⟨nm, hnm⟩ : ∃ nm, rdOf ByteArray.empty names (i : Int) = nm := ⟨_, rfl⟩
      rw [hnm] at xn
      have HNM := Aside0.mk (show nmAt names i = nm from hnm)
      have HSC := Aside0.mk (score_calls p nm wr)
      obtain ⟨⟨s1, offs, ok⟩, hsc⟩ : ∃ y : Int × List Int × Bool, scoreP p nm = y := ⟨_, rfl⟩
      have HOKA := Aside0.mk (show okAt p names i = ok by unfold okAt; rw [HNM.out, hsc])
      have HSCA := Aside0.mk (show ok = true → scAt p names i = s1 from fun h => by unfold scAt; rw [HOKA.out, h, if_pos rfl, HNM.out, hsc])
      rw [hsc] at HSC
      have r0 := eq_true (show (0 : Int) ≤ (i : Int) by omega)
      have r1 := eq_true (show (i : Int) < (names.length : Int) by omega)
      have r2 := eq_true hin
      have HIN := Aside0.mk hin
      clear hsc hnm hin
      cases ok with
      | false =>
        have HM := Aside0.mk (show mtK p names (i + 1) = mtK p names i by rw [mtK_succ, HOKA.out, if_neg (by simp)])
        have HSK := Aside0.mk (scK_skip p names i HIN.out HOKA.out)
        go_wp2_with (first | (go_at_call 6; refine HSC.out.mono ?_; rintro e w5 ⟨v5, rfl, hr5, hb5⟩; have HB5 := Aside0.mk hb5; clear hb5 hr5))
        have hI := hA.out.1
        go_roundg k1
        case measure => omega
        case rel => exact ⟨i + 1, A7, c7, by rw [HM.out], by first | rfl | (rw [wrap_id (by omega) (by have := HN.out; omega)]; rfl), by omega, ⟨⟨(HB5.out.block _ (lt_of_blk hI.b0)).trans hI.b0, by rw [HSK.out]; exact (HB5.out.block _ (lt_of_blk hI.b1)).trans hI.b1, (HB5.out.block _ (lt_of_blk hI.b2)).trans hI.b2, hI.bel.trans (HB5.out.mono (by have := lt_of_blk hI.b0; omega))⟩, by rw [HM.out]; exact Kd.R_below hA.out.2 HB5.out⟩⟩
      | true =>
        have HM := Aside0.mk (show mtK p names (i + 1) = mtK p names i ++ [(i : Int)] by rw [mtK_succ, HOKA.out, if_pos rfl])
        have HSK := Aside0.mk (show scK p names (i + 1) = (scK p names i).set i s1 by rw [scK_succ p names i HIN.out, HSCA.out rfl])
        have hml := mtK_len p names i
        obtain ⟨ms, hms⟩ : ∃ ms, mtK p names i = ms := ⟨_, rfl⟩
        rw [hms] at hml HM
        simp only [hms] at hA ⊢
        clear hms
        go_upto_region 10 with (first | (go_at_call 6; refine HSC.out.mono ?_; rintro e w5 ⟨v5, rfl, hr5, hb5⟩; have HB5 := Aside0.mk hb5; clear hb5 hr5))
        have hI := hA.out.1
        have h0 := (HB5.out.block _ (lt_of_blk hI.b0)).trans hI.b0
        have h1 := (HB5.out.block _ (lt_of_blk hI.b1)).trans hI.b1
        have h2 := (HB5.out.block _ (lt_of_blk hI.b2)).trans hI.b2
        have hbl := hI.bel.trans (HB5.out.mono (by have := lt_of_blk hI.b0; omega) : Below b wr w5)
        have hr5 := Kd.R_below hA.out.2 HB5.out
        have hz5 := lt_of_blk h2
        have y2 := cell_of_blk h2
        have HML := Aside0.mk hml
        have H0 := Aside0.mk h0
        have H1 := Aside0.mk h1
        have H2 := Aside0.mk h2
        have HBL := Aside0.mk hbl
        have HR5 := Aside0.mk hr5
        clear hI h0 h1 h2 hbl hr5 hml c1 c2 xn
        refine start_ (n := 10) (S := fun X => X.cell? ⟨b + 2, 0, none⟩ = some (.slice (some ⟨b + 1, 0, none⟩) names.length names.length)) (ds := [8]) #[false, false, false, false, false, false, false, false, false, false] (by kernel_rfl) rfl rfl (y2) (fun hHeld => ?_)
        refine take_ (i := 0) (N := some 34) (v := ?_) (a' := ?_) #[true, false, false, false, false, false, false, false, false, false] rfl rfl (by kernel_rfl) (fun _ _ _ h => h) (Or.inl ⟨by rfl, ?_⟩) hHeld ?_ ?_
        rotate_left
        · intro w' s0_
          go_simp
          with_reducible rfl
        rotate_left
        · simp only [Act.put, List.setIfInBounds_toArray, List.set_cons_zero, List.set_cons_succ, i64_w, i32_w]
          rfl
        refine pure_ (i := 1) (N := some 35) (v := ?_) (a' := ?_) #[true, true, false, false, false, false, false, false, false, false] rfl rfl (by kernel_rfl) (fun _ _ _ h => h) (Or.inl ⟨by rfl, ?_⟩) ?_ ?_
        rotate_left
        · intro w'
          go_simp
          with_reducible rfl
        rotate_left
        · simp only [Act.put, List.setIfInBounds_toArray, List.set_cons_zero, List.set_cons_succ, i64_w, i32_w]
          rfl
        refine pure_ (i := 2) (N := some 36) (v := ?_) (a' := ?_) #[true, true, true, false, false, false, false, false, false, false] rfl rfl (by kernel_rfl) (fun _ _ _ h => h) (Or.inl ⟨by rfl, ?_⟩) ?_ ?_
        rotate_left
        · intro w'
          go_simp
          with_reducible rfl
        rotate_left
        · simp only [Act.put, List.setIfInBounds_toArray, List.set_cons_zero, List.set_cons_succ, i64_w, i32_w]
          rfl
        refine pure_ (i := 3) (N := some 37) (v := ?_) (a' := ?_) #[true, true, true, true, false, false, false, false, false, false] rfl rfl (by kernel_rfl) (fun _ _ _ h => h) (Or.inl ⟨by rfl, ?_⟩) ?_ ?_
        rotate_left
        · intro w'
          go_simp
          with_reducible rfl
        rotate_left
        · simp only [Act.put, List.setIfInBounds_toArray, List.set_cons_zero, List.set_cons_succ, i64_w, i32_w]
          rfl
        refine pure_ (i := 4) (N := some 38) (v := ?_) (a' := ?_) #[true, true, true, true, true, false, false, false, false, false] rfl rfl (by kernel_rfl) (fun _ _ _ h => h) (Or.inl ⟨by rfl, ?_⟩) ?_ ?_
        rotate_left
        · intro w'
          go_simp
          with_reducible rfl
        rotate_left
        · simp only [Act.put, List.setIfInBounds_toArray, List.set_cons_zero, List.set_cons_succ, i64_w, i32_w]
          rfl
        refine one_ (i := 5) (N := some 39) #[true, true, true, true, true, true, false, false, false, false] rfl rfl (by kernel_rfl) (by decide) (fun K hK => ?_)
        refine value_ (v := .slice (some ⟨w5.heap.size, 0, none⟩) 1 1) (w1 := w5.drew.alloc (.cells #[.int .i64 (i : Int)] 3)) (by rfl) rfl ?_ ?_
        · go_simp
        have hc6 := (below_alloc (below_drew1 (Below.refl w5.heap.size w5)) (.cells #[.int .i64 (i : Int)] 3)).cell (World.block_lt_of_cell? _ _ y2) |>.trans y2
        refine hK.out _ _ (hc6) (fun hHeld => ?_)
        clear hK K
        refine norm_ (a' := ?_) ?_ ?_
        rotate_left
        · show Act.put _ (some 39) _ = _
          simp only [Act.put, List.setIfInBounds_toArray, List.set_cons_zero, List.set_cons_succ, i64_w, i32_w]
          rfl
        refine one_ (i := 6) (N := some 40) #[true, true, true, true, true, true, true, false, false, false] rfl rfl (by kernel_rfl) (by decide) (fun K hK => ?_)
        refine Kd.R_append_step (Kd.int .i64) (w0 := w5.drew) (b + 3) (by rfl) (.tmp 37) (.tmp 39) 23 3 (.int .i64 0) 8 rfl Try.underlying23 infI rfl (by decide) (by omega) (.slice A7 ms.length c7) ms (i : Int) [.int .i64 (i : Int)] (fun _ => True) (fun _ => False) rfl rfl rfl (fun _ h => h.elim) (fun _ _ => trivial) (Kd.R_drew HR5.out) (Below.refl _ _) (by show b + 3 ≤ w5.heap.size; omega) (by have := HML.out; have := HN.out; have := HIN.out; omega) ?_
        intro v7 w7 ho7 hb7 hg7 hat7
        obtain ⟨A8, c8, hv⟩ := Kd.R_slice ho7
        rw [List.length_append, List.length_singleton] at hv
        subst hv
        have k0 := (hb7.block b (by omega)).trans (show w5.drew.heap[b]? = _ from H0.out)
        have k1' := (hb7.block (b + 1) (by omega)).trans (show w5.drew.heap[b + 1]? = _ from H1.out)
        have k2 := (hb7.block (b + 2) (by omega)).trans (show w5.drew.heap[b + 2]? = _ from H2.out)
        have z2 := cell_of_blk k2
        refine hK.out _ _ (z2) (fun hHeld => ?_)
        clear hK K
        refine norm_ (a' := ?_) ?_ ?_
        rotate_left
        · show Act.put _ (some 40) _ = _
          simp only [Act.put, List.setIfInBounds_toArray, List.set_cons_zero, List.set_cons_succ, i64_w, i32_w]
          rfl
        have hln := scK_len p names i
        have r3 := eq_true HIN.out
        refine pure_ (i := 7) (N := some 41) (v := ?_) (a' := ?_) #[true, true, true, true, true, true, true, true, false, false] rfl rfl (by kernel_rfl) (fun _ _ _ h => h) (Or.inl ⟨by rfl, ?_⟩) ?_ ?_
        rotate_left
        · intro w'
          go_simp
          with_reducible rfl
        rotate_left
        · simp only [Act.put, List.setIfInBounds_toArray, List.set_cons_zero, List.set_cons_succ, i64_w, i32_w]
          rfl
        refine last_ (i := 8) (N := none) #[true, true, true, true, true, true, true, true, true, false] rfl rfl (by kernel_rfl) (by decide) (fun K hK => ?_)
        have hcell : w7.cell? ⟨b + 1, i, none⟩ = some (.int .i64 (rd (scK p names i) (i : Int))) := ints_cell k1' i (by rw [hln]; exact HIN.out)
        have hfro : w7.frozen? ⟨b + 1, i, none⟩ = false := free_of_blk k1' i
        refine skip_ (w1 := w7.setCell ⟨b + 1, i, none⟩ (.int .i64 s1)) (by rfl) rfl ?_ ?_
        · go_simp
        refine hK.out _ _ ?_
        clear hK K hHeld
        refine pure_ (i := 9) (N := some 7) (v := ?_) (a' := ?_) #[true, true, true, true, true, true, true, true, true, true] rfl rfl (by kernel_rfl) (fun _ _ _ h => h) (Or.inl ⟨by rfl, ?_⟩) ?_ ?_
        rotate_left
        · intro w'
          go_simp
          with_reducible rfl
        rotate_left
        · simp only [Act.put, List.setIfInBounds_toArray, List.set_cons_zero, List.set_cons_succ, i64_w, i32_w]
          rfl
        refine done_ (by kernel_rfl) ?_
        have e7 : ∀ q : Nat, q ≠ b + 1 → (w7.setCell ⟨b + 1, i, none⟩ (.int .i64 s1)).heap[q]? = w7.heap[q]? := fun q hq => Below.heap_setCell _ _ _ _ hq
        have hset := hb_set k1' i (.int .i64 s1)
        rw [ints_set, ← HSK.out] at hset
        have HFIN := Aside0.mk (show RnkI w b (some ad) c p names (i + 1) (w7.setCell ⟨b + 1, i, none⟩ (.int .i64 s1)) ∧ Kd.R (Kd.int .i64) 3 (w7.setCell ⟨b + 1, i, none⟩ (.int .i64 s1)) (b + 3) (fun _ => True) (.slice A8 (ms.length + 1) c8) (ms ++ [(i : Int)]) from
          ⟨⟨(e7 _ (by omega)).trans k0, hset, (e7 _ (by omega)).trans k2, ((below_drew1 HBL.out).trans (hb7.mono (by omega))).setCell (p := ⟨b + 1, i, none⟩) (by show b ≤ b + 1; omega) _⟩,
            Kd.R_mono (Kd.R_step (Kd.R_bound ho7) (fun q hq hlt => e7 q (by have := hq.2.1; omega))) (fun _ _ => trivial)⟩)
        clear ho7 hb7 hg7 hat7 k0 k1' k2 z2 hcell hfro e7 hset hln r0 r1 r2 r3 y2 hz5
        go_wp2
        go_roundg k1
        case measure => omega
        case rel => exact ⟨i + 1, A8, c8, by rw [HM.out, List.length_append]; rfl, by first | rfl | (rw [wrap_id (by omega) (by have := HN.out; omega)]; rfl), by omega, by rw [HM.out, List.length_append]; exact HFIN⟩
end
def fuzzy_Rank.f (a0 : ByteArray) (l1 : List ByteArray) : Option (List Int × Int) := rankP a0 l1
theorem fuzzy_Rank.calls (a0 : ByteArray) (A1 : Option Addr) (c1 : Nat) (l1 : List ByteArray) (r1 : List Int) (r2 : Int) (w : World) (hr1 : Kd.C Kd.string w A1 l1.length l1) (hc1 : l1.length ≤ c1) (h : fuzzy_Rank.f a0 l1 = some (r1, r2)) :
    Calls Try.prog 10 #[.string a0, .slice A1 l1.length c1] w fun e w' => ∃ v0_ : Value, e = .returned (.tuple #[v0_, .int .i64 r2]) ∧ Kd.R (Kd.int .i64) 3 w' w.heap.size (fun _ => True) v0_ r1 ∧ Below w.heap.size w w' :=
  rank_calls a0 A1 c1 l1 w r1 r2 hr1 hc1 h

end Go.Proofs.Ytpkdgdhfhgelbaa.QFuzzyScoreEqualsReference
