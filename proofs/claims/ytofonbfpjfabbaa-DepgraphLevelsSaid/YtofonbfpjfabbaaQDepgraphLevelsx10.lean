-- Written by gen.py (this repo's wip/), which runs the kit's print.py with more arms. Lean checks it.
import Derived.Test.YtofonbfpjfabbaaQDepgraphLevelsx0
import Derived.Test.YtofonbfpjfabbaaQDepgraphLevelsx4
namespace Go.Proofs.Ytofonbfpjfabbaa.QDepgraphLevels
open Go.RowKit Go.Proofs.YtofonbfpjfabbaaW.PrintWords Go.Proofs.YtofonbfpjfabbaaW.PrintLast Go.Proofs.YtofonbfpjfabbaaW.PrintMore
attribute [local go_sem] max2_int min2_int max_two min_two max_three min_three max_four min_four   -- for this text's walks alone
set_option linter.unusedVariables false
set_option linter.unusedSimpArgs false

section
open Go.Lib Go.Proofs.Ytofonbfpjfabbaa.Hand Go.Proofs.Ytofonbfpjfabbaa.Aid
/-- The first place where p holds, from i on; -1: none. -/
def idxL (p : S24 → Bool) : List S24 → Int → Int
  | [], _ => -1
  | x :: t, i => if p x = true then i else idxL p t (i + 1)
def idxFrom (p : S24 → Bool) (xs : List S24) (i : Nat) : Int := idxL p (xs.drop i) (i : Int)
def idxP (p : S24 → Bool) (xs : List S24) : Int := idxFrom p xs 0
theorem idxFrom_end (p : S24 → Bool) (xs : List S24) : idxFrom p xs xs.length = -1 := by unfold idxFrom; rw [List.drop_length]; rfl
theorem idxFrom_step (p : S24 → Bool) (xs : List S24) (i : Nat) (h : i < xs.length) : idxFrom p xs i = if p xs[i] = true then (i : Int) else idxFrom p xs (i + 1) := by
  unfold idxFrom
  rw [List.drop_eq_getElem_cons h]
  rfl
set_option maxRecDepth 100000 in
set_option maxHeartbeats 16000000 in
theorem idx42_calls (A : Option Addr) (c : Nat) (xs : List S24) (p : S24 → Bool) (pb : Nat) (w : World) (hr : Kd.C k24 w A xs.length xs) (hl : xs.length < 1000000)
    (hf : ∀ X x, Below w.heap.size w X → Calls Try.prog 42 #[encK x, .pointer (some ⟨pb, 0, none⟩)] X fun e X' => e = .returned (.bool (p x)) ∧ Below X.heap.size X X') :
    Calls Try.prog 25 #[.slice A xs.length c, .func (.func 42) #[] #[.pointer (some ⟨pb, 0, none⟩)]] w fun e w' => e = .returned (.int .i64 (idxP p xs)) ∧ Below w.heap.size w w' := by
  have HR := Aside0.mk hr
  have HL := Aside0.mk hl
  have HF := Aside0.mk hf
  clear hr hl hf
  go_enter Try.func25, Try.ntmps25
  go_wp2
  go_loopg [8] xs.length (fun kq v8 W => ∃ i : Nat, v8 = .int .i64 (i : Int) ∧ kq + i = xs.length ∧ Aside0 (Below w.heap.size w W ∧ idxP p xs = idxFrom p xs i))
  case atStart => exact ⟨0, rfl, by omega, ⟨Below.refl _ _, rfl⟩⟩
  case round =>
    obtain ⟨i, rfl, hi, hA⟩ := hrel
    cases gk with
    | zero =>
      have HIL := Aside0.mk (show i = xs.length by omega)
      have c0' : decide ((i : Int) < (xs.length : Int)) = false := decide_eq_false (by omega)
      have c0'' : decide (i < xs.length) = false := decide_eq_false (by omega)
      clear hi
      go_wp2
      go_ret
      exact ⟨by rw [hA.out.2, HIL.out, idxFrom_end]; rfl, hA.out.1⟩
    | succ k1 =>
      have c0' : decide ((i : Int) < (xs.length : Int)) = true := decide_eq_true (by omega)
      have hil : i < xs.length := by omega
      have c0'' : decide (i < xs.length) = true := decide_eq_true hil
      obtain ⟨x, hx⟩ : ∃ x, rd_T24 xs (i : Int) = x := ⟨_, rfl⟩
      have hxi : xs[i] = x := by rw [← hx, rd24_at xs i hil]
      obtain ⟨ad, rfl, x0, x1, x2⟩ := at_T24 (Kd.C_below HR.out hA.out.1) (i : Int) (by omega) (by omega)
      rw [hx, Int.toNat_natCast] at x0 x1 x2
      have r0 := eq_true (show (0 : Int) ≤ (i : Int) by omega)
      have r1 := eq_true (show (i : Int) < (xs.length : Int) by omega)
      have r2 := eq_true hil
      have HSTEP := Aside0.mk (show idxFrom p xs i = if p x = true then (i : Int) else idxFrom p xs (i + 1) by rw [idxFrom_step p xs i hil, hxi])
      have HC := Aside0.mk (HF.out wr x hA.out.1)
      unfold encK at HC
      obtain ⟨b, hb⟩ : ∃ b, p x = b := ⟨_, rfl⟩
      rw [hb] at HC HSTEP
      clear hil hx hxi hb
      cases b with
      | true =>
        go_wp2_with (first | (go_at_call 42; refine HC.out.mono ?_; rintro e w9 ⟨rfl, hb9⟩; have HB9 := Aside0.mk hb9; clear hb9))
        go_ret
        exact ⟨by rw [hA.out.2, HSTEP.out]; rfl, hA.out.1.trans (HB9.out.mono hA.out.1.size)⟩
      | false =>
        go_wp2_with (first | (go_at_call 42; refine HC.out.mono ?_; rintro e w9 ⟨rfl, hb9⟩; have HB9 := Aside0.mk hb9; clear hb9))
        go_roundg k1
        case measure => omega
        case rel => exact ⟨i + 1, by first | rfl | (rw [wrap_id (by omega) (by have := HL.out; omega)]; rfl), by omega, ⟨hA.out.1.trans (HB9.out.mono hA.out.1.size), by rw [hA.out.2, HSTEP.out]; rfl⟩⟩
set_option maxRecDepth 100000 in
set_option maxHeartbeats 16000000 in
theorem idx26_calls (A : Option Addr) (c : Nat) (xs : List S24) (p : S24 → Bool) (gb pb : Nat) (w : World) (hr : Kd.C k24 w A xs.length xs) (hl : xs.length < 1000000)
    (hf : ∀ X x, Below w.heap.size w X → Calls Try.prog 26 #[encK x, .pointer (some ⟨gb, 0, none⟩), .pointer (some ⟨pb, 0, none⟩)] X fun e X' => e = .returned (.bool (p x)) ∧ Below X.heap.size X X') :
    Calls Try.prog 25 #[.slice A xs.length c, .func (.func 26) #[] #[.pointer (some ⟨gb, 0, none⟩), .pointer (some ⟨pb, 0, none⟩)]] w fun e w' => e = .returned (.int .i64 (idxP p xs)) ∧ Below w.heap.size w w' := by
  have HR := Aside0.mk hr
  have HL := Aside0.mk hl
  have HF := Aside0.mk hf
  clear hr hl hf
  go_enter Try.func25, Try.ntmps25
  go_wp2
  go_loopg [8] xs.length (fun kq v8 W => ∃ i : Nat, v8 = .int .i64 (i : Int) ∧ kq + i = xs.length ∧ Aside0 (Below w.heap.size w W ∧ idxP p xs = idxFrom p xs i))
  case atStart => exact ⟨0, rfl, by omega, ⟨Below.refl _ _, rfl⟩⟩
  case round =>
    obtain ⟨i, rfl, hi, hA⟩ := hrel
    cases gk with
    | zero =>
      have HIL := Aside0.mk (show i = xs.length by omega)
      have c0' : decide ((i : Int) < (xs.length : Int)) = false := decide_eq_false (by omega)
      have c0'' : decide (i < xs.length) = false := decide_eq_false (by omega)
      clear hi
      go_wp2
      go_ret
      exact ⟨by rw [hA.out.2, HIL.out, idxFrom_end]; rfl, hA.out.1⟩
    | succ k1 =>
      have c0' : decide ((i : Int) < (xs.length : Int)) = true := decide_eq_true (by omega)
      have hil : i < xs.length := by omega
      have c0'' : decide (i < xs.length) = true := decide_eq_true hil
      obtain ⟨x, hx⟩ : ∃ x, rd_T24 xs (i : Int) = x := ⟨_, rfl⟩
      have hxi : xs[i] = x := by rw [← hx, rd24_at xs i hil]
      obtain ⟨ad, rfl, x0, x1, x2⟩ := at_T24 (Kd.C_below HR.out hA.out.1) (i : Int) (by omega) (by omega)
      rw [hx, Int.toNat_natCast] at x0 x1 x2
      have r0 := eq_true (show (0 : Int) ≤ (i : Int) by omega)
      have r1 := eq_true (show (i : Int) < (xs.length : Int) by omega)
      have r2 := eq_true hil
      have HSTEP := Aside0.mk (show idxFrom p xs i = if p x = true then (i : Int) else idxFrom p xs (i + 1) by rw [idxFrom_step p xs i hil, hxi])
      have HC := Aside0.mk (HF.out wr x hA.out.1)
      unfold encK at HC
      obtain ⟨b, hb⟩ : ∃ b, p x = b := ⟨_, rfl⟩
      rw [hb] at HC HSTEP
      clear hil hx hxi hb
      cases b with
      | true =>
        go_wp2_with (first | (go_at_call 26; refine HC.out.mono ?_; rintro e w9 ⟨rfl, hb9⟩; have HB9 := Aside0.mk hb9; clear hb9))
        go_ret
        exact ⟨by rw [hA.out.2, HSTEP.out]; rfl, hA.out.1.trans (HB9.out.mono hA.out.1.size)⟩
      | false =>
        go_wp2_with (first | (go_at_call 26; refine HC.out.mono ?_; rintro e w9 ⟨rfl, hb9⟩; have HB9 := Aside0.mk hb9; clear hb9))
        go_roundg k1
        case measure => omega
        case rel => exact ⟨i + 1, by first | rfl | (rw [wrap_id (by omega) (by have := HL.out; omega)]; rfl), by omega, ⟨hA.out.1.trans (HB9.out.mono hA.out.1.size), by rw [hA.out.2, HSTEP.out]; rfl⟩⟩
theorem idxL_neg (p : S24 → Bool) : ∀ (t : List S24) (i : Int), 0 ≤ i → decide (idxL p t i ≥ 0) = t.any p
  | [], i, _ => rfl
  | x :: t, i, h => by
    rw [idxL, List.any_cons]
    by_cases c : p x = true
    · rw [if_pos c, c, Bool.true_or, decide_eq_true h]
    · rw [if_neg c, idxL_neg p t (i + 1) (by omega)]
      simp [c]
set_option maxRecDepth 100000 in
set_option maxHeartbeats 16000000 in
theorem contains42_calls (A : Option Addr) (c : Nat) (xs : List S24) (p : S24 → Bool) (pb : Nat) (w : World) (hr : Kd.C k24 w A xs.length xs) (hl : xs.length < 1000000)
    (hf : ∀ X x, Below w.heap.size w X → Calls Try.prog 42 #[encK x, .pointer (some ⟨pb, 0, none⟩)] X fun e X' => e = .returned (.bool (p x)) ∧ Below X.heap.size X X') :
    Calls Try.prog 31 #[.slice A xs.length c, .func (.func 42) #[] #[.pointer (some ⟨pb, 0, none⟩)]] w fun e w' => e = .returned (.bool (xs.any p)) ∧ Below w.heap.size w w' := by
  have HC := Aside0.mk (idx42_calls A c xs p pb w hr hl hf)
  have HA := Aside0.mk (show decide (idxP p xs ≥ 0) = xs.any p from idxL_neg p xs 0 (Int.le_refl 0))
  clear hr hl hf
  go_enter Try.func31, Try.ntmps31
  go_wp2_with (first | (go_at_call 25; refine HC.out.mono ?_; rintro e w9 ⟨rfl, hb9⟩; have HB9 := Aside0.mk hb9; clear hb9))
  go_ret
  refine ⟨?_, HB9.out⟩
  rw [← HA.out]
  rfl
set_option maxRecDepth 100000 in
set_option maxHeartbeats 16000000 in
theorem unplaced_calls (pb mp : Nat) (pl : List S24) (k : S24) (w : World) (hp : w.cell? ⟨pb, 0, none⟩ = some (.map (some mp))) (hm : MapIs encK w mp (ones pl)) :
    Calls Try.prog 42 #[encK k, .pointer (some ⟨pb, 0, none⟩)] w fun e w' => e = .returned (.bool (!decide (k ∈ pl))) ∧ Below w.heap.size w w' := by
  unfold encK
  obtain ⟨b, hb⟩ : ∃ b, w.heap.size = b := ⟨_, rfl⟩
  obtain ⟨W1, hW1⟩ : ∃ W1, w.alloc (.cells #[.int .i64 k.f0, .int .i64 k.f1, .int .i64 k.f2] 24) = W1 := ⟨_, rfl⟩
  have hb1 : Below w.heap.size w W1 := by rw [← hW1]; exact below_alloc (Below.refl _ _) _
  have hk1 : W1.heap[b]? = some (.cells #[.int .i64 k.f0, .int .i64 k.f1, .int .i64 k.f2] 24 (0, 0)) := by rw [← hb, ← hW1]; exact hb_new _ _
  have hp1 := (hb1.cell (World.block_lt_of_cell? _ _ hp)).trans hp
  have hlk : (Instr.lookup 50 (.map (some mp)) (.agg #[.int .i64 k.f0, .int .i64 k.f1, .int .i64 k.f2]) false).run Try.prog W1 = .ok (.int .i64 (if k ∈ pl then 1 else 0)) W1 := by
    have h := (hm.below hb1 hm.lt).lookup keyLaw24 Try.underlying50 (zero3 W1) k false
    simp only [Bool.false_eq_true, if_false] at h
    rw [mget_ones] at h
    exact h
  have HB1 := Aside0.mk hb1
  have y0 : W1.cell? ⟨b, 0, none⟩ = some (.int .i64 k.f0) := (cells_of_blk hk1 0).trans rfl
  have y1 : W1.cell? ⟨b, 1, none⟩ = some (.int .i64 k.f1) := (cells_of_blk hk1 1).trans rfl
  have y2 : W1.cell? ⟨b, 2, none⟩ = some (.int .i64 k.f2) := (cells_of_blk hk1 2).trans rfl
  clear hp hm hb1 hk1
  go_enter Try.func42, Try.ntmps42
  go_upto_region 1 with (fail)
  try rw [hW1]
  try rw [hb]
  clear hW1
  by_cases hk : k ∈ pl
  · rw [if_pos hk] at hlk
    go_wp2
    go_ret
    exact ⟨by rw [decide_eq_true hk]; rfl, HB1.out⟩
  · rw [if_neg hk] at hlk
    go_wp2
    go_ret
    exact ⟨by rw [decide_eq_false hk]; rfl, HB1.out⟩
/-- Whether a key can be placed now. -/
def readyB (E : List (S24 × S24)) (pl : List S24) (k : S24) : Bool := !decide (k ∈ pl) && !((nextK E k).any (fun x => !decide (x ∈ pl)))
set_option maxRecDepth 100000 in
set_option maxHeartbeats 16000000 in
theorem ready_calls (g mb mp : Nat) (E : List (S24 × S24)) (pl : List S24) (key : S24) (w : World) (hG : GrC g mb E w) (hE : E.length ≤ 400) (hm : MapIs encK w mp (ones pl)) :
    Calls Try.prog 27 #[.pointer (some ⟨g, 0, none⟩), encK key, .map (some mp)] w fun e w' => e = .returned (.bool (readyB E pl key)) ∧ Below w.heap.size w w' := by
  unfold encK
  have HG := Aside0.mk hG
  have HM := Aside0.mk hm
  have HE := Aside0.mk hE
  clear hG hm hE
  go_enter Try.func27, Try.ntmps27
  go_upto_region 2 with (fail)
  obtain ⟨b, hb⟩ : ∃ b, w.heap.size = b := ⟨_, rfl⟩
  obtain ⟨W1, hW1⟩ : ∃ W1, (w.alloc (.cells #[.int .i64 key.f0, .int .i64 key.f1, .int .i64 key.f2] 24)).alloc (.cells #[.map (some mp)] 50) = W1 := ⟨_, rfl⟩
  have hb1 : Below w.heap.size w W1 := by rw [← hW1]; exact below_alloc (below_alloc (Below.refl _ _) _) _
  have hk1 : W1.heap[b]? = some (.cells #[.int .i64 key.f0, .int .i64 key.f1, .int .i64 key.f2] 24 (0, 0)) := by rw [← hb, ← hW1]; exact hb_alloc (hb_new _ _)
  have hp1 : W1.heap[b + 1]? = some (.cells #[.map (some mp)] 50 (0, 0)) := by
    rw [← hb, ← hW1]
    have := hb_new (w.alloc (.cells #[.int .i64 key.f0, .int .i64 key.f1, .int .i64 key.f2] 24)) (.cells #[.map (some mp)] 50)
    rwa [World.size_alloc] at this
  rw [hW1, hb]
  clear hW1
  obtain ⟨Ak, ck, m, h1, h2, h3, h4, h5⟩ := HG.out.below hb1
  obtain ⟨A, c, e7, hc7, hr7⟩ := h5 key
  have HM1 := Aside0.mk (HM.out.below hb1 HM.out.lt)
  obtain ⟨q, hq⟩ : ∃ q : Int, (if key ∈ pl then 1 else 0) = q := ⟨_, rfl⟩
  have HS := Aside0.mk (show ∀ X : World, Below W1.heap.size W1 X → (X.cell? ⟨b + 1, 0, none⟩ = some (.map (some mp)) ∧ X.cell? ⟨b, 0, none⟩ = some (.int .i64 key.f0) ∧ X.cell? ⟨b, 1, none⟩ = some (.int .i64 key.f1) ∧ X.cell? ⟨b, 2, none⟩ = some (.int .i64 key.f2) ∧ X.cell? ⟨g, 0, none⟩ = some (.map (some mb)) ∧ (Instr.lookup 50 (.map (some mp)) (.agg #[.int .i64 key.f0, .int .i64 key.f1, .int .i64 key.f2]) false).run Try.prog X = .ok (.int .i64 q) X ∧ (Instr.lookup 51 (.map (some mb)) (.agg #[.int .i64 key.f0, .int .i64 key.f1, .int .i64 key.f2]) false).run Try.prog X = .ok (.slice A (nextK E key).length c) X) from fun X hX => by
    have hk := (hX.block _ (lt_of_blk hk1)).trans hk1
    have hp := (hX.block _ (lt_of_blk hp1)).trans hp1
    have hg := (hX.block _ (lt_of_blk h1)).trans h1
    refine ⟨(cells_of_blk hp 0).trans rfl, (cells_of_blk hk 0).trans rfl, (cells_of_blk hk 1).trans rfl, (cells_of_blk hk 2).trans rfl, (cells_of_blk hg 0).trans rfl, ?_, ?_⟩
    · have h := (HM1.out.below hX HM1.out.lt).lookup keyLaw24 Try.underlying50 (zero3 X) key false
      simp only [Bool.false_eq_true, if_false] at h
      rw [mget_ones, hq] at h
      exact h
    · have h := (h4.below hX h4.lt).lookup keyLaw24 Try.underlying51 (zero27 X) key false
      rw [e7] at h
      exact h)
  have HB1 := Aside0.mk hb1
  have HR7 := Aside0.mk (And.intro hc7 hr7)
  have hnl := nextK_len E key
  clear h1 h2 h3 h4 h5 e7 hc7 hr7 hk1 hb1
  by_cases hk : key ∈ pl
  · rw [if_pos hk] at hq
    subst hq
    have hres : readyB E pl key = false := by unfold readyB; rw [decide_eq_true hk]; rfl
    refine start_ (n := 16) (S := fun X => X.cell? ⟨b + 1, 0, none⟩ = some (.map (some mp)) ∧ X.cell? ⟨b, 0, none⟩ = some (.int .i64 key.f0) ∧ X.cell? ⟨b, 1, none⟩ = some (.int .i64 key.f1) ∧ X.cell? ⟨b, 2, none⟩ = some (.int .i64 key.f2) ∧ X.cell? ⟨g, 0, none⟩ = some (.map (some mb)) ∧ (Instr.lookup 50 (.map (some mp)) (.agg #[.int .i64 key.f0, .int .i64 key.f1, .int .i64 key.f2]) false).run Try.prog X = .ok (.int .i64 1) X ∧ (Instr.lookup 51 (.map (some mb)) (.agg #[.int .i64 key.f0, .int .i64 key.f1, .int .i64 key.f2]) false).run Try.prog X = .ok (.slice A (nextK E key).length c) X) (ds := ([] : List Nat)) #[false, false, false, false, false, false, false, false, false, false, false, false, false, false, false, false] (by kernel_rfl) rfl rfl (HS.out _ (below_drew1 (Below.refl _ _))) (fun hHeld => ?_)
    refine take_ (i := 0) (N := some 9) (v := ?_) (a' := ?_) #[true, false, false, false, false, false, false, false, false, false, false, false, false, false, false, false] rfl rfl (by kernel_rfl) (fun _ _ _ h => h) (Or.inl ⟨by rfl, ?_⟩) hHeld ?_ ?_
    rotate_left
    · rintro w' ⟨s0_, s1_, s2_, s3_, s4_, s5_, s6_⟩
      go_simp
      with_reducible rfl
    rotate_left
    · simp only [Act.put, List.setIfInBounds_toArray, List.set_cons_zero, List.set_cons_succ, i64_w, i32_w]
      rfl
    refine take_ (i := 1) (N := some 10) (v := ?_) (a' := ?_) #[true, true, false, false, false, false, false, false, false, false, false, false, false, false, false, false] rfl rfl (by kernel_rfl) (fun _ _ _ h => h) (Or.inl ⟨by rfl, ?_⟩) hHeld ?_ ?_
    rotate_left
    · rintro w' ⟨s0_, s1_, s2_, s3_, s4_, s5_, s6_⟩
      go_simp
      with_reducible rfl
    rotate_left
    · simp only [Act.put, List.setIfInBounds_toArray, List.set_cons_zero, List.set_cons_succ, i64_w, i32_w]
      rfl
    refine take_ (i := 2) (N := some 11) (v := ?_) (a' := ?_) #[true, true, true, false, false, false, false, false, false, false, false, false, false, false, false, false] rfl rfl (by kernel_rfl) (fun _ _ _ h => h) (Or.inl ⟨by rfl, ?_⟩) hHeld ?_ ?_
    rotate_left
    · rintro w' ⟨s0_, s1_, s2_, s3_, s4_, s5_, s6_⟩
      go_simp
      with_reducible rfl
    rotate_left
    · simp only [Act.put, List.setIfInBounds_toArray, List.set_cons_zero, List.set_cons_succ, i64_w, i32_w]
      rfl
    refine pure_ (i := 3) (N := some 12) (v := ?_) (a' := ?_) #[true, true, true, true, false, false, false, false, false, false, false, false, false, false, false, false] rfl rfl (by kernel_rfl) (fun _ _ _ h => h) (Or.inl ⟨by rfl, ?_⟩) ?_ ?_
    rotate_left
    · intro w'
      go_simp
      with_reducible rfl
    rotate_left
    · simp only [Act.put, List.setIfInBounds_toArray, List.set_cons_zero, List.set_cons_succ, i64_w, i32_w]
      rfl
    refine pure_ (i := 4) (N := some 13) (v := ?_) (a' := ?_) #[true, true, true, true, true, false, false, false, false, false, false, false, false, false, false, false] rfl rfl (by kernel_rfl) (fun _ _ _ h => h) (Or.inl ⟨by rfl, ?_⟩) ?_ ?_
    rotate_left
    · intro w'
      go_simp
      with_reducible rfl
    rotate_left
    · simp only [Act.put, List.setIfInBounds_toArray, List.set_cons_zero, List.set_cons_succ, i64_w, i32_w]
      rfl
    refine pure_ (i := 5) (N := some 14) (v := undef) (a' := ?_) #[true, true, true, true, true, true, false, false, false, false, false, false, false, false, false, false] rfl rfl (by kernel_rfl) (fun _ _ _ h => h) (Or.inr ⟨by rfl, rfl⟩) ?_ ?_
    rotate_left
    · simp only [Act.put, List.setIfInBounds_toArray, List.set_cons_zero, List.set_cons_succ, i64_w, i32_w]
      rfl
    refine pure_ (i := 6) (N := some 15) (v := undef) (a' := ?_) #[true, true, true, true, true, true, true, false, false, false, false, false, false, false, false, false] rfl rfl (by kernel_rfl) (fun _ _ _ h => h) (Or.inr ⟨by rfl, rfl⟩) ?_ ?_
    rotate_left
    · simp only [Act.put, List.setIfInBounds_toArray, List.set_cons_zero, List.set_cons_succ, i64_w, i32_w]
      rfl
    refine pure_ (i := 7) (N := some 16) (v := undef) (a' := ?_) #[true, true, true, true, true, true, true, true, false, false, false, false, false, false, false, false] rfl rfl (by kernel_rfl) (fun _ _ _ h => h) (Or.inr ⟨by rfl, rfl⟩) ?_ ?_
    rotate_left
    · simp only [Act.put, List.setIfInBounds_toArray, List.set_cons_zero, List.set_cons_succ, i64_w, i32_w]
      rfl
    refine pure_ (i := 8) (N := some 17) (v := undef) (a' := ?_) #[true, true, true, true, true, true, true, true, true, false, false, false, false, false, false, false] rfl rfl (by kernel_rfl) (fun _ _ _ h => h) (Or.inr ⟨by rfl, rfl⟩) ?_ ?_
    rotate_left
    · simp only [Act.put, List.setIfInBounds_toArray, List.set_cons_zero, List.set_cons_succ, i64_w, i32_w]
      rfl
    refine pure_ (i := 9) (N := some 18) (v := undef) (a' := ?_) #[true, true, true, true, true, true, true, true, true, true, false, false, false, false, false, false] rfl rfl (by kernel_rfl) (fun _ _ _ h => h) (Or.inr ⟨by rfl, rfl⟩) ?_ ?_
    rotate_left
    · simp only [Act.put, List.setIfInBounds_toArray, List.set_cons_zero, List.set_cons_succ, i64_w, i32_w]
      rfl
    refine pure_ (i := 10) (N := some 19) (v := undef) (a' := ?_) #[true, true, true, true, true, true, true, true, true, true, true, false, false, false, false, false] rfl rfl (by kernel_rfl) (fun _ _ _ h => h) (Or.inr ⟨by rfl, rfl⟩) ?_ ?_
    rotate_left
    · simp only [Act.put, List.setIfInBounds_toArray, List.set_cons_zero, List.set_cons_succ, i64_w, i32_w]
      rfl
    refine pure_ (i := 11) (N := some 20) (v := undef) (a' := ?_) #[true, true, true, true, true, true, true, true, true, true, true, true, false, false, false, false] rfl rfl (by kernel_rfl) (fun _ _ _ h => h) (Or.inr ⟨by rfl, rfl⟩) ?_ ?_
    rotate_left
    · simp only [Act.put, List.setIfInBounds_toArray, List.set_cons_zero, List.set_cons_succ, i64_w, i32_w]
      rfl
    refine pure_ (i := 12) (N := some 21) (v := undef) (a' := ?_) #[true, true, true, true, true, true, true, true, true, true, true, true, true, false, false, false] rfl rfl (by kernel_rfl) (fun _ _ _ h => h) (Or.inr ⟨by rfl, rfl⟩) ?_ ?_
    rotate_left
    · simp only [Act.put, List.setIfInBounds_toArray, List.set_cons_zero, List.set_cons_succ, i64_w, i32_w]
      rfl
    refine pure_ (i := 13) (N := some 22) (v := undef) (a' := ?_) #[true, true, true, true, true, true, true, true, true, true, true, true, true, true, false, false] rfl rfl (by kernel_rfl) (fun _ _ _ h => h) (Or.inr ⟨by rfl, rfl⟩) ?_ ?_
    rotate_left
    · simp only [Act.put, List.setIfInBounds_toArray, List.set_cons_zero, List.set_cons_succ, i64_w, i32_w]
      rfl
    refine pure_ (i := 14) (N := some 23) (v := ?_) (a' := ?_) #[true, true, true, true, true, true, true, true, true, true, true, true, true, true, true, false] rfl rfl (by kernel_rfl) (fun _ _ _ h => h) (Or.inl ⟨by rfl, ?_⟩) ?_ ?_
    rotate_left
    · intro w'
      go_simp
      with_reducible rfl
    rotate_left
    · simp only [Act.put, List.setIfInBounds_toArray, List.set_cons_zero, List.set_cons_succ, i64_w, i32_w]
      rfl
    refine pure_ (i := 15) (N := some 6) (v := ?_) (a' := ?_) #[true, true, true, true, true, true, true, true, true, true, true, true, true, true, true, true] rfl rfl (by kernel_rfl) (fun _ _ _ h => h) (Or.inl ⟨by rfl, ?_⟩) ?_ ?_
    rotate_left
    · intro w'
      go_simp
      with_reducible rfl
    rotate_left
    · simp only [Act.put, List.setIfInBounds_toArray, List.set_cons_zero, List.set_cons_succ, i64_w, i32_w]
      rfl
    refine done_ (by kernel_rfl) ?_
    go_wp2
    go_ret
    exact ⟨by rw [hres]; rfl, below_drew1 HB1.out⟩
  · rw [if_neg hk] at hq
    subst hq
    have hres : readyB E pl key = !((nextK E key).any (fun x => !decide (x ∈ pl))) := by unfold readyB; rw [decide_eq_false hk]; rfl
    refine start_ (n := 16) (S := fun X => X.cell? ⟨b + 1, 0, none⟩ = some (.map (some mp)) ∧ X.cell? ⟨b, 0, none⟩ = some (.int .i64 key.f0) ∧ X.cell? ⟨b, 1, none⟩ = some (.int .i64 key.f1) ∧ X.cell? ⟨b, 2, none⟩ = some (.int .i64 key.f2) ∧ X.cell? ⟨g, 0, none⟩ = some (.map (some mb)) ∧ (Instr.lookup 50 (.map (some mp)) (.agg #[.int .i64 key.f0, .int .i64 key.f1, .int .i64 key.f2]) false).run Try.prog X = .ok (.int .i64 0) X ∧ (Instr.lookup 51 (.map (some mb)) (.agg #[.int .i64 key.f0, .int .i64 key.f1, .int .i64 key.f2]) false).run Try.prog X = .ok (.slice A (nextK E key).length c) X) (ds := [12]) #[false, false, false, false, false, false, false, false, false, false, false, false, false, false, false, false] (by kernel_rfl) rfl rfl (HS.out _ (below_drew1 (Below.refl _ _))) (fun hHeld => ?_)
    refine take_ (i := 0) (N := some 9) (v := ?_) (a' := ?_) #[true, false, false, false, false, false, false, false, false, false, false, false, false, false, false, false] rfl rfl (by kernel_rfl) (fun _ _ _ h => h) (Or.inl ⟨by rfl, ?_⟩) hHeld ?_ ?_
    rotate_left
    · rintro w' ⟨s0_, s1_, s2_, s3_, s4_, s5_, s6_⟩
      go_simp
      with_reducible rfl
    rotate_left
    · simp only [Act.put, List.setIfInBounds_toArray, List.set_cons_zero, List.set_cons_succ, i64_w, i32_w]
      rfl
    refine take_ (i := 1) (N := some 10) (v := ?_) (a' := ?_) #[true, true, false, false, false, false, false, false, false, false, false, false, false, false, false, false] rfl rfl (by kernel_rfl) (fun _ _ _ h => h) (Or.inl ⟨by rfl, ?_⟩) hHeld ?_ ?_
    rotate_left
    · rintro w' ⟨s0_, s1_, s2_, s3_, s4_, s5_, s6_⟩
      go_simp
      with_reducible rfl
    rotate_left
    · simp only [Act.put, List.setIfInBounds_toArray, List.set_cons_zero, List.set_cons_succ, i64_w, i32_w]
      rfl
    refine take_ (i := 2) (N := some 11) (v := ?_) (a' := ?_) #[true, true, true, false, false, false, false, false, false, false, false, false, false, false, false, false] rfl rfl (by kernel_rfl) (fun _ _ _ h => h) (Or.inl ⟨by rfl, ?_⟩) hHeld ?_ ?_
    rotate_left
    · rintro w' ⟨s0_, s1_, s2_, s3_, s4_, s5_, s6_⟩
      go_simp
      with_reducible rfl
    rotate_left
    · simp only [Act.put, List.setIfInBounds_toArray, List.set_cons_zero, List.set_cons_succ, i64_w, i32_w]
      rfl
    refine pure_ (i := 3) (N := some 12) (v := ?_) (a' := ?_) #[true, true, true, true, false, false, false, false, false, false, false, false, false, false, false, false] rfl rfl (by kernel_rfl) (fun _ _ _ h => h) (Or.inl ⟨by rfl, ?_⟩) ?_ ?_
    rotate_left
    · intro w'
      go_simp
      with_reducible rfl
    rotate_left
    · simp only [Act.put, List.setIfInBounds_toArray, List.set_cons_zero, List.set_cons_succ, i64_w, i32_w]
      rfl
    refine pure_ (i := 4) (N := some 13) (v := ?_) (a' := ?_) #[true, true, true, true, true, false, false, false, false, false, false, false, false, false, false, false] rfl rfl (by kernel_rfl) (fun _ _ _ h => h) (Or.inl ⟨by rfl, ?_⟩) ?_ ?_
    rotate_left
    · intro w'
      go_simp
      with_reducible rfl
    rotate_left
    · simp only [Act.put, List.setIfInBounds_toArray, List.set_cons_zero, List.set_cons_succ, i64_w, i32_w]
      rfl
    refine pure_ (i := 5) (N := some 14) (v := ?_) (a' := ?_) #[true, true, true, true, true, true, false, false, false, false, false, false, false, false, false, false] rfl rfl (by kernel_rfl) (fun _ _ _ h => h) (Or.inl ⟨by rfl, ?_⟩) ?_ ?_
    rotate_left
    · intro w'
      go_simp
      with_reducible rfl
    rotate_left
    · simp only [Act.put, List.setIfInBounds_toArray, List.set_cons_zero, List.set_cons_succ, i64_w, i32_w]
      rfl
    refine pure_ (i := 6) (N := some 15) (v := ?_) (a' := ?_) #[true, true, true, true, true, true, true, false, false, false, false, false, false, false, false, false] rfl rfl (by kernel_rfl) (fun _ _ _ h => h) (Or.inl ⟨by rfl, ?_⟩) ?_ ?_
    rotate_left
    · intro w'
      go_simp
      with_reducible rfl
    rotate_left
    · simp only [Act.put, List.setIfInBounds_toArray, List.set_cons_zero, List.set_cons_succ, i64_w, i32_w]
      rfl
    refine pure_ (i := 7) (N := some 16) (v := ?_) (a' := ?_) #[true, true, true, true, true, true, true, true, false, false, false, false, false, false, false, false] rfl rfl (by kernel_rfl) (fun _ _ _ h => h) (Or.inl ⟨by rfl, ?_⟩) ?_ ?_
    rotate_left
    · intro w'
      go_simp
      with_reducible rfl
    rotate_left
    · simp only [Act.put, List.setIfInBounds_toArray, List.set_cons_zero, List.set_cons_succ, i64_w, i32_w]
      rfl
    refine take_ (i := 8) (N := some 17) (v := ?_) (a' := ?_) #[true, true, true, true, true, true, true, true, true, false, false, false, false, false, false, false] rfl rfl (by kernel_rfl) (fun _ _ _ h => h) (Or.inl ⟨by rfl, ?_⟩) hHeld ?_ ?_
    rotate_left
    · rintro w' ⟨s0_, s1_, s2_, s3_, s4_, s5_, s6_⟩
      go_simp
      with_reducible rfl
    rotate_left
    · simp only [Act.put, List.setIfInBounds_toArray, List.set_cons_zero, List.set_cons_succ, i64_w, i32_w]
      rfl
    refine take_ (i := 9) (N := some 18) (v := ?_) (a' := ?_) #[true, true, true, true, true, true, true, true, true, true, false, false, false, false, false, false] rfl rfl (by kernel_rfl) (fun _ _ _ h => h) (Or.inl ⟨by rfl, ?_⟩) hHeld ?_ ?_
    rotate_left
    · rintro w' ⟨s0_, s1_, s2_, s3_, s4_, s5_, s6_⟩
      go_simp
      with_reducible rfl
    rotate_left
    · simp only [Act.put, List.setIfInBounds_toArray, List.set_cons_zero, List.set_cons_succ, i64_w, i32_w]
      rfl
    refine take_ (i := 10) (N := some 19) (v := ?_) (a' := ?_) #[true, true, true, true, true, true, true, true, true, true, true, false, false, false, false, false] rfl rfl (by kernel_rfl) (fun _ _ _ h => h) (Or.inl ⟨by rfl, ?_⟩) hHeld ?_ ?_
    rotate_left
    · rintro w' ⟨s0_, s1_, s2_, s3_, s4_, s5_, s6_⟩
      go_simp
      with_reducible rfl
    rotate_left
    · simp only [Act.put, List.setIfInBounds_toArray, List.set_cons_zero, List.set_cons_succ, i64_w, i32_w]
      rfl
    refine pure_ (i := 11) (N := some 20) (v := ?_) (a' := ?_) #[true, true, true, true, true, true, true, true, true, true, true, true, false, false, false, false] rfl rfl (by kernel_rfl) (fun _ _ _ h => h) (Or.inl ⟨by rfl, ?_⟩) ?_ ?_
    rotate_left
    · intro w'
      go_simp
      with_reducible rfl
    rotate_left
    · simp only [Act.put, List.setIfInBounds_toArray, List.set_cons_zero, List.set_cons_succ, i64_w, i32_w]
      rfl
    refine last_ (i := 12) (N := some 21) #[true, true, true, true, true, true, true, true, true, true, true, true, true, false, false, false] rfl rfl (by kernel_rfl) (by decide) (fun K hK => ?_)
    refine goes_ Try.func31 (by kernel_rfl) rfl #[.slice A (nextK E key).length c, .func (.func 42) #[] #[.pointer (some ⟨b + 1, 0, none⟩)]] (by rfl) rfl rfl (by (try simp only [List.map_toArray, List.map_cons, List.map_nil]); first | done | rfl) ?_
    refine (contains42_calls A c (nextK E key) (fun x => !decide (x ∈ pl)) (b + 1) W1.drew (Kd.C_drew HR7.out.2) (by have := HE.out; omega) (fun X x hX => ?_)).mono ?_
    · have hX' : Below W1.heap.size W1 X := (below_drew1 (Below.refl _ _)).trans hX
      exact unplaced_calls (b + 1) mp pl x X (HS.out X hX').1 (HM1.out.below hX' HM1.out.lt)
    rintro e w3 ⟨rfl, hb3⟩
    refine ⟨_, rfl, ?_⟩
    refine hK.out _ _ ?_
    clear hK K hHeld
    obtain ⟨r, hr⟩ : ∃ r, (nextK E key).any (fun x => !decide (x ∈ pl)) = r := ⟨_, rfl⟩
    rw [hr] at hres ⊢
    clear hr
    refine norm_ (a' := ?_) ?_ ?_
    rotate_left
    · show Act.put _ (some 21) _ = _
      simp only [Act.put, List.setIfInBounds_toArray, List.set_cons_zero, List.set_cons_succ, i64_w, i32_w]
      rfl
    refine pure_ (i := 13) (N := some 22) (v := ?_) (a' := ?_) #[true, true, true, true, true, true, true, true, true, true, true, true, true, true, false, false] rfl rfl (by kernel_rfl) (fun _ _ _ h => h) (Or.inl ⟨by rfl, ?_⟩) ?_ ?_
    rotate_left
    · intro w'
      go_simp
      with_reducible rfl
    rotate_left
    · simp only [Act.put, List.setIfInBounds_toArray, List.set_cons_zero, List.set_cons_succ, i64_w, i32_w]
      rfl
    refine pure_ (i := 14) (N := some 23) (v := ?_) (a' := ?_) #[true, true, true, true, true, true, true, true, true, true, true, true, true, true, true, false] rfl rfl (by kernel_rfl) (fun _ _ _ h => h) (Or.inl ⟨by rfl, ?_⟩) ?_ ?_
    rotate_left
    · intro w'
      go_simp
      with_reducible rfl
    rotate_left
    · simp only [Act.put, List.setIfInBounds_toArray, List.set_cons_zero, List.set_cons_succ, i64_w, i32_w]
      rfl
    refine pure_ (i := 15) (N := some 6) (v := ?_) (a' := ?_) #[true, true, true, true, true, true, true, true, true, true, true, true, true, true, true, true] rfl rfl (by kernel_rfl) (fun _ _ _ h => h) (Or.inl ⟨by rfl, ?_⟩) ?_ ?_
    rotate_left
    · intro w'
      go_simp
      with_reducible rfl
    rotate_left
    · simp only [Act.put, List.setIfInBounds_toArray, List.set_cons_zero, List.set_cons_succ, i64_w, i32_w]
      rfl
    refine done_ (by kernel_rfl) ?_
    go_wp2
    go_ret
    exact ⟨by rw [hres]; rfl, HB1.out.trans (((below_drew1 (Below.refl W1.heap.size W1)).trans hb3).mono HB1.out.size)⟩
end
section
open Go.Lib Go.Proofs.Ytofonbfpjfabbaa.Hand Go.Proofs.Ytofonbfpjfabbaa.Aid
/-- The keys that can be placed now. -/
def lvlOf (E : List (S24 × S24)) (pl : List S24) : List S24 := (keysK E).filter (readyB E pl)
/-- The levels as they are built, n rounds at most: none when no key can be placed. -/
def levN (E : List (S24 × S24)) : Nat → List S24 → List (List S24) → Option (List (List S24))
  | 0, pl, lv => if pl.length < (keysK E).length then none else some lv
  | n + 1, pl, lv => if pl.length < (keysK E).length then (if (lvlOf E pl).length = 0 then none else levN E n (pl ++ lvlOf E pl) (lv ++ [lvlOf E pl])) else some lv
def levR (E : List (S24 × S24)) : Option (List (List S24)) := levN E ((keysK E).length + 1) [] []
def levErr (o : Option (List (List S24))) : Int := if o.isSome then 0 else 8
theorem lvl_snoc (E : List (S24 × S24)) (pl : List S24) (i : Nat) (h : i < (keysK E).length) : ((keysK E).take (i + 1)).filter (readyB E pl) = ((keysK E).take i).filter (readyB E pl) ++ (if readyB E pl (keysK E)[i] = true then [(keysK E)[i]] else []) := by
  rw [List.take_succ_eq_append_getElem h, List.filter_append, List.filter_cons]
  rfl
theorem info27_ : (Try.prog.info? 27).map (fun i => (i.zero, i.size, i.bytes)) = some (some (.slice none 0 0), (Kd.slice 24 k24).sz, 24) := by kernel_rfl
set_option maxRecDepth 100000 in
set_option maxHeartbeats 16000000 in
theorem levels_calls (A0 : Option Addr) (c0 : Nat) (l0 : List S44) (w : World) (hr0 : Kd.C k44 w A0 l0.length l0) (hc0 : l0.length ≤ c0) :
    Calls Try.prog 16 #[.slice A0 l0.length c0] w fun e w' => ∃ v, e = .returned (.tuple #[v, .int .i64 (levErr (levR (edgesP false (l0.take 400))))]) ∧ Kd.S (Kd.slice 24 k24) 27 w' w.heap.size (fun _ => True) v ((levR (edgesP false (l0.take 400))).getD []) ∧ Below w.heap.size w w' := by
  have HN := Aside0.mk (newGraph_calls A0 c0 l0 false w hr0 hc0)
  have hE : (edgesP false (l0.take 400)).length ≤ 400 := by unfold edgesP; rw [List.length_map, List.length_take]; omega
  obtain ⟨E, hEd⟩ : ∃ E, edgesP false (l0.take 400) = E := ⟨_, rfl⟩
  have hmm := @run_makeMap Try.prog
  unfold NgPost at HN
  rw [hEd] at HN hE ⊢
  have HE := Aside0.mk hE
  clear hE hEd hr0 hc0
  go_enter Try.func16, Try.ntmps16
  go_upto_region 3 with (first | (go_at_call 21; refine HN.out.mono ?_; rintro e w2 ⟨g, mb, rfl, hg2, hb2⟩; have HG2 := Aside0.mk hg2; have HB2 := Aside0.mk hb2; clear hg2 hb2))
  obtain ⟨b, hb⟩ : ∃ b, w2.heap.size = b := ⟨_, rfl⟩
  obtain ⟨W3, hW3⟩ : ∃ W3, w2.alloc (.map #[] 0) = W3 := ⟨_, rfl⟩
  have hb3 : Below w2.heap.size w2 W3 := by rw [← hW3]; exact below_alloc (Below.refl _ _) _
  have hm3 : MapIs encK W3 b (ones []) := by rw [← hb, ← hW3]; exact MapIs.new w2
  have hz3 : W3.heap.size = b + 1 := by rw [← hb, ← hW3]; simp
  rw [hW3]
  simp only [hb]
  obtain ⟨Ak, ck, mm, hA1, hA2, hA3, hA4, hA5⟩ := HG2.out
  have HA1 := Aside0.mk hA1
  have HA2 := Aside0.mk (And.intro hA2 hA3)
  have HBW := Aside0.mk hb
  have HB3 := Aside0.mk hb3
  have HM3 := Aside0.mk hm3
  have HZ3 := Aside0.mk hz3
  clear hA1 hA2 hA3 hA4 hA5 hW3 hb hb3 hm3 hz3 hmm HN
  go_wp2
  go_loopg [6] ((keysK E).length + 1) (fun kq v6 W => ∃ (pl : List S24) (lv : List (List S24)) (A6 : Option Addr) (c6 : Nat), v6 = .slice A6 lv.length c6 ∧ Aside0 (lv.length + kq = (keysK E).length + 1) ∧ Aside0 (levR E = levN E kq pl lv ∧ pl.length ≤ (keysK E).length ∧ (keysK E).length < kq + pl.length ∧ pl.Nodup ∧ (∀ x ∈ pl, x ∈ keysK E) ∧ Kd.S (Kd.slice 24 k24) 27 W (b + 1) (fun _ => True) (.slice A6 lv.length c6) lv ∧ MapIs encK W b (ones pl) ∧ Below w2.heap.size w2 W))
  case atStart => exact ⟨[], [], none, 0, rfl, ⟨by simp⟩, ⟨rfl, by simp, by simp, List.nodup_nil, fun x hx => (by cases hx), Kd.S_nil _ _ _ _ _, HM3.out, HB3.out⟩⟩
  case round =>
    obtain ⟨pl, lv, A6, c6, rfl, hLK, hA⟩ := hrel
    have HGR := Aside0.mk (HG2.out.below hA.out.2.2.2.2.2.2.2)
    have HKC := Aside0.mk (Kd.C_below HA2.out.2 hA.out.2.2.2.2.2.2.2)
    have HS := Aside0.mk (show ∀ X : World, X.heap = wr.heap → (X.cell? ⟨g, 1, none⟩ = some (.slice Ak (keysK E).length ck) ∧ (Builtin.len_ #[50] 3 #[.map (some b)]).run Try.prog X = .ok (.int .i64 (pl.length : Int)) X) from fun X hX => by
      have h1 := (hA.out.2.2.2.2.2.2.2.block _ (lt_of_blk HA1.out)).trans HA1.out
      have h1' := (show X.heap[g]? = wr.heap[g]? by rw [hX]).trans h1
      refine ⟨(cells_of_blk h1' 1).trans rfl, ?_⟩
      have h := (hA.out.2.2.2.2.2.2.1.move (show X.heap[b]? = wr.heap[b]? by rw [hX])).len Try.underlying50 3
      rw [show (ones pl).length = pl.length from by unfold ones; rw [List.length_map]] at h
      exact h)
    go_upto_region 4 with (fail)
    refine start_ (n := 8) (S := fun X => X.cell? ⟨g, 1, none⟩ = some (.slice Ak (keysK E).length ck) ∧ (Builtin.len_ #[50] 3 #[.map (some b)]).run Try.prog X = .ok (.int .i64 (pl.length : Int)) X) (ds := ([] : List Nat)) #[false, false, false, false, false, false, false, false] (by kernel_rfl) rfl rfl (HS.out _ rfl) (fun hHeld => ?_)
    refine pure_ (i := 0) (N := some 15) (v := ?_) (a' := ?_) #[true, false, false, false, false, false, false, false] rfl rfl (by kernel_rfl) (fun _ _ _ h => h) (Or.inl ⟨by rfl, ?_⟩) ?_ ?_
    rotate_left
    · intro w'
      go_simp
      with_reducible rfl
    rotate_left
    · simp only [Act.put, List.setIfInBounds_toArray, List.set_cons_zero, List.set_cons_succ, i64_w, i32_w]
      rfl
    refine take_ (i := 1) (N := some 16) (v := ?_) (a' := ?_) #[true, true, false, false, false, false, false, false] rfl rfl (by kernel_rfl) (fun _ _ _ h => h) (Or.inl ⟨by rfl, ?_⟩) hHeld ?_ ?_
    rotate_left
    · rintro w' ⟨s0_, s1_⟩
      go_simp
      with_reducible rfl
    rotate_left
    · simp only [Act.put, List.setIfInBounds_toArray, List.set_cons_zero, List.set_cons_succ, i64_w, i32_w]
      rfl
    refine pure_ (i := 2) (N := some 17) (v := ?_) (a' := ?_) #[true, true, true, false, false, false, false, false] rfl rfl (by kernel_rfl) (fun _ _ _ h => h) (Or.inl ⟨by rfl, ?_⟩) ?_ ?_
    rotate_left
    · intro w'
      go_simp
      with_reducible rfl
    rotate_left
    · simp only [Act.put, List.setIfInBounds_toArray, List.set_cons_zero, List.set_cons_succ, i64_w, i32_w]
      rfl
    refine pure_ (i := 3) (N := some 18) (v := ?_) (a' := ?_) #[true, true, true, true, false, false, false, false] rfl rfl (by kernel_rfl) (fun _ _ _ h => h) (Or.inl ⟨by rfl, ?_⟩) ?_ ?_
    rotate_left
    · intro w'
      go_simp
      with_reducible rfl
    rotate_left
    · simp only [Act.put, List.setIfInBounds_toArray, List.set_cons_zero, List.set_cons_succ, i64_w, i32_w]
      rfl
    refine pure_ (i := 4) (N := some 19) (v := ?_) (a' := ?_) #[true, true, true, true, true, false, false, false] rfl rfl (by kernel_rfl) (fun _ _ _ h => h) (Or.inl ⟨by rfl, ?_⟩) ?_ ?_
    rotate_left
    · intro w'
      go_simp
      with_reducible rfl
    rotate_left
    · simp only [Act.put, List.setIfInBounds_toArray, List.set_cons_zero, List.set_cons_succ, i64_w, i32_w]
      rfl
    refine take_ (i := 5) (N := some 20) (v := ?_) (a' := ?_) #[true, true, true, true, true, true, false, false] rfl rfl (by kernel_rfl) (fun _ _ _ h => h) (Or.inl ⟨by rfl, ?_⟩) hHeld ?_ ?_
    rotate_left
    · rintro w' ⟨s0_, s1_⟩
      go_simp
      with_reducible rfl
    rotate_left
    · simp only [Act.put, List.setIfInBounds_toArray, List.set_cons_zero, List.set_cons_succ, i64_w, i32_w]
      rfl
    refine pure_ (i := 6) (N := some 21) (v := ?_) (a' := ?_) #[true, true, true, true, true, true, true, false] rfl rfl (by kernel_rfl) (fun _ _ _ h => h) (Or.inl ⟨by rfl, ?_⟩) ?_ ?_
    rotate_left
    · intro w'
      go_simp
      with_reducible rfl
    rotate_left
    · simp only [Act.put, List.setIfInBounds_toArray, List.set_cons_zero, List.set_cons_succ, i64_w, i32_w]
      rfl
    refine pure_ (i := 7) (N := some 22) (v := ?_) (a' := ?_) #[true, true, true, true, true, true, true, true] rfl rfl (by kernel_rfl) (fun _ _ _ h => h) (Or.inl ⟨by rfl, ?_⟩) ?_ ?_
    rotate_left
    · intro w'
      go_simp
      with_reducible rfl
    rotate_left
    · simp only [Act.put, List.setIfInBounds_toArray, List.set_cons_zero, List.set_cons_succ, i64_w, i32_w]
      rfl
    refine done_ (by kernel_rfl) ?_
    clear hHeld
    by_cases hlt : pl.length < (keysK E).length
    · have c0' : decide ((pl.length : Int) < ((keysK E).length : Int)) = true := decide_eq_true (by omega)
      have c0'' : decide (pl.length < (keysK E).length) = true := decide_eq_true hlt
      simp only [c0', c0'']
      have z1 : wr.drew.cell? ⟨g, 1, none⟩ = some (.slice Ak (keysK E).length ck) := (HS.out wr.drew rfl).1
      go_upto_region 7 with (fail)
      clear z1 c0' c0''
      obtain ⟨gn, rfl⟩ : ∃ gn, gk = gn + 1 := ⟨gk - 1, by have := hA.out.2.2.1; omega⟩
      have HNX := Aside0.mk (show levR E = if (lvlOf E pl).length = 0 then none else levN E gn (pl ++ lvlOf E pl) (lv ++ [lvlOf E pl]) by rw [hA.out.1]; conv => lhs; unfold levN; rw [if_pos hlt])
      obtain ⟨Wr, hWr⟩ : ∃ Wr, wr.drew = Wr := ⟨_, rfl⟩
      have HWR := Aside0.mk (show Below w2.heap.size w2 Wr by rw [← hWr]; exact below_drew1 hA.out.2.2.2.2.2.2.2)
      have HMR := Aside0.mk (show MapIs encK Wr b (ones pl) by rw [← hWr]; exact hA.out.2.2.2.2.2.2.1)
      have HSR := Aside0.mk (show Kd.S (Kd.slice 24 k24) 27 Wr (b + 1) (fun _ => True) (.slice A6 lv.length c6) lv by rw [← hWr]; exact hA.out.2.2.2.2.2.1)
      rw [hWr]
      clear hWr HS
      go_loopg [7, 28] (keysK E).length (fun kq v7 v28 W => ∃ (i : Nat) (A7 : Option Addr) (c7 : Nat), v7 = .slice A7 (((keysK E).take i).filter (readyB E pl)).length c7 ∧ v28 = .int .i64 (i : Int) ∧ kq + i = (keysK E).length ∧ Aside0 (Kd.R k24 24 W Wr.heap.size (fun _ => True) (.slice A7 (((keysK E).take i).filter (readyB E pl)).length c7) (((keysK E).take i).filter (readyB E pl)) ∧ Below Wr.heap.size Wr W))
      case atStart => exact ⟨0, none, 0, rfl, rfl, by omega, ⟨Kd.R_nil _ _ _ _ _, Below.refl _ _⟩⟩
      case round =>
        obtain ⟨i, A7, c7, rfl, rfl, hi, hB⟩ := hrel
        cases gk with
        | zero =>
          have hil : i = (keysK E).length := by omega
          have c1' : decide ((i : Int) < ((keysK E).length : Int)) = false := decide_eq_false (by omega)
          have c1'' : decide (i < (keysK E).length) = false := decide_eq_false (by omega)
          have hfl : ((keysK E).take i).filter (readyB E pl) = lvlOf E pl := by rw [hil, List.take_length]; rfl
          simp only [hfl] at hB ⊢
          obtain ⟨lev, hlev⟩ : ∃ lev, lvlOf E pl = lev := ⟨_, rfl⟩
          have HLEV := Aside0.mk hlev
          have HLT := Aside0.mk hlt
          rw [hlev] at hB ⊢
          clear hfl hil hi hlev hlt
          by_cases hz : lev.length = 0
          · have z0 : ((lev.length : Int) == 0) = true := by rw [hz]; rfl
            have z1 : (lev.length == 0) = true := by rw [hz]; rfl
            have HF := Aside0.mk (show levR E = none by rw [HNX.out, HLEV.out, if_pos hz])
            clear hz
            go_wp2
            go_ret2
            rw [HF.out]
            exact ⟨_, rfl, Kd.S_nil _ _ _ _ _, HB2.out.trans ((HWR.out.trans (hB.out.2.mono HWR.out.size)).mono HB2.out.size)⟩
          · have z0 : ((lev.length : Int) == 0) = false := by rw [Bool.eq_false_iff, Ne, beq_iff_eq]; omega
            have z1 : (lev.length == 0) = false := by rw [Bool.eq_false_iff, Ne, beq_iff_eq]; exact hz
            have HF := Aside0.mk (show levR E = levN E gn (pl ++ lev) (lv ++ [lev]) by rw [HNX.out, HLEV.out, if_neg hz])
            have HNE := Aside0.mk (show 0 < lev.length by omega)
            clear hz
            go_upto_region 15 with (fail)
            obtain ⟨Wq, rfl⟩ : ∃ Wq, Wq = wr := ⟨_, rfl⟩
            have HNIN := Aside0.mk (show ∀ x ∈ lev, x ∉ pl from fun x hx h => by
              rw [← HLEV.out] at hx
              have h2 := (List.mem_filter.1 hx).2
              unfold readyB at h2
              rw [decide_eq_true h] at h2
              cases h2)
            have HND := Aside0.mk (show lev.Nodup from by rw [← HLEV.out]; exact (srt_nodup ordK (keysK_srt E)).filter _)
            have HLL := Aside0.mk (show lev.length ≤ 800 from by
              have h1 := keysK_len E
              have h3 := HE.out
              have h4 := List.length_filter_le (readyB E pl) (keysK E)
              have h5 := HLEV.out
              unfold lvlOf at h5
              rw [h5] at h4
              omega)
            go_loopg [46] lev.length (fun kq v46 W => ∃ j : Nat, v46 = .int .i64 (j : Int) ∧ kq + j = lev.length ∧ Aside0 (MapIs encK W b (ones (pl ++ lev.take j)) ∧ Chg (fun q => q = b) Wq W))
            case atStart => exact ⟨0, rfl, by omega, ⟨by rw [List.take_zero, List.append_nil]; exact HMR.out.below hB.out.2 HMR.out.lt, Chg.refl _ _⟩⟩
            case round =>
              obtain ⟨j, rfl, hj, hC⟩ := hrel
              have HRW := Aside0.mk (show Kd.R k24 24 wr Wr.heap.size (fun _ => True) (.slice A7 lev.length c7) lev from
                Kd.R_mono (Kd.R_step (Kd.R_bound hB.out.1) (fun q hq hlt => hC.out.2.block q hlt (fun e => by have h1 := hq.2.1; have h2 := HMR.out.lt; omega))) (fun _ _ => trivial))
              cases gk with
              | zero =>
                have hjl : j = lev.length := by omega
                subst hjl
                have c3' : decide ((lev.length : Int) < (lev.length : Int)) = false := decide_eq_false (by omega)
                have c3'' : decide (lev.length < lev.length) = false := decide_eq_false (by omega)
                have HM := Aside0.mk (show MapIs encK wr b (ones (pl ++ lev)) by have h := hC.out.1; rwa [List.take_length] at h)
                have hbz := HMR.out.lt
                have hbe := HBW.out
                have HBW2 := Aside0.mk (show Below w2.heap.size w2 wr from (HWR.out.trans (hB.out.2.mono HWR.out.size)).trans (hC.out.2.to_below (fun q _ hq => by omega) (by have h1 := hB.out.2.size; omega)))
                have hsz : b + 1 ≤ wr.heap.size := by have h1 := HM.out.lt; omega
                have HL6 := Aside0.mk (show Kd.S (Kd.slice 24 k24) 27 wr (b + 1) (fun q => True ∧ ¬ some q = (Value.slice A7 lev.length c7).ownBlock) (.slice A6 lv.length c6) lv from
                  Kd.S_mono (Kd.S_step (Kd.S_bound HSR.out) (fun q hq hlt => (hC.out.2.block q (Nat.lt_of_lt_of_le hlt hB.out.2.size) (fun e => by have h1 := hq.2.1; omega)).trans (hB.out.2.block q hlt))) (fun q hq => ⟨trivial, fun e => by have h1 := Kd.R_base hB.out.1 q e.symm; have h2 := hq.2.2.1; omega⟩))
                have h6ne : ∀ q, some q = (Value.slice A7 lev.length c7).ownBlock → True ∧ some q ≠ (Value.slice A6 lv.length c6).ownBlock := fun q hq => ⟨trivial, fun e => by have h1 := Kd.R_base hB.out.1 q hq.symm; have h2 := Kd.S_lt HSR.out q e.symm; omega⟩
                have HSL := Aside0.mk (show (pl ++ lev).length ≤ (keysK E).length ∧ (pl ++ lev).Nodup ∧ (∀ x ∈ pl ++ lev, x ∈ keysK E) from by
                  have hn : (pl ++ lev).Nodup := List.nodup_append.2 ⟨hA.out.2.2.2.1, HND.out, fun x hx y hy e => HNIN.out y hy (e ▸ hx)⟩
                  have hs : ∀ x ∈ pl ++ lev, x ∈ keysK E := fun x hx => (List.mem_append.1 hx).elim (hA.out.2.2.2.2.1 x) (fun h => by rw [← HLEV.out] at h; exact (List.mem_filter.1 h).1)
                  exact ⟨sub_len hn hs, hn, hs⟩)
                have hlvl : lv.length ≤ 1000000 := by
                  have h1 := keysK_len E
                  have h3 := HE.out
                  have h4 := hLK.out
                  omega
                clear hj
                go_upto_region 19 with (fail)
                go_wp2_with (first | ((with_reducible refine gate_builtin (b := .append) (xs := #[.tmp 53, .tmp 55]) rfl ?_); at_builtin; refine stop_ ?_))
                refine ⟨?_⟩
                refine Kd.S_append (Kd.slice 24 k24) (w0 := wr) (b + 1) rfl (.tmp 53) (.tmp 55) 36 27 (.slice none 0 0) 24 rfl Try.underlying36 info27_ rfl (by decide) (by omega) (.slice A6 lv.length c6) lv lev [.slice A7 lev.length c7] (fun _ => True) (fun q => some q = (Value.slice A7 lev.length c7).ownBlock) rfl rfl (Kd.M_row (Kd.R_lower (Kd.R_tight rfl HRW.out) (by have h := HMR.out.lt; omega))) h6ne (fun _ _ => trivial) HL6.out (Below.refl _ _) hsz (by omega) ?_
                intro v11 w11 ho11 hb11 hg11 hat11
                obtain ⟨A11, c11, hv⟩ := Kd.S_slice ho11
                subst hv
                have hnb : some b ≠ (Value.slice A6 lv.length c6).ownBlock := fun e => by
                  have h1 := Kd.S_base HSR.out b e.symm
                  omega
                have HFIN := Aside0.mk (show levR E = levN E gn (pl ++ lev) (lv ++ [lev]) ∧ (pl ++ lev).length ≤ (keysK E).length ∧ (keysK E).length < gn + (pl ++ lev).length ∧ (pl ++ lev).Nodup ∧ (∀ x ∈ pl ++ lev, x ∈ keysK E) ∧ Kd.S (Kd.slice 24 k24) 27 w11 (b + 1) (fun _ => True) (.slice A11 (lv ++ [lev]).length c11) (lv ++ [lev]) ∧ MapIs encK w11 b (ones (pl ++ lev)) ∧ Below w2.heap.size w2 w11 from
                  ⟨HF.out, HSL.out.1, by rw [List.length_append]; have h1 := hA.out.2.2.1; have h2 := HNE.out; omega, HSL.out.2.1, HSL.out.2.2, ho11, HM.out.move (hg11.block _ HM.out.lt hnb), HBW2.out.grown hg11 (by omega) (fun q h => by have h1 := Kd.S_base HSR.out q h; omega)⟩)
                clear ho11 hb11 hg11 hat11 hnb h6ne hbz hbe hsz hlvl
                go_wp2
                go_roundg gn
                case measure => omega
                case rel => exact ⟨pl ++ lev, lv ++ [lev], A11, c11, by rw [List.length_append]; rfl, ⟨by rw [List.length_append, List.length_singleton]; have h1 := hLK.out; omega⟩, HFIN⟩
              | succ k1 =>
                have hjl : j < lev.length := by omega
                have c3' : decide ((j : Int) < (lev.length : Int)) = true := decide_eq_true (by omega)
                have c3'' : decide (j < lev.length) = true := decide_eq_true hjl
                obtain ⟨x, hx⟩ : ∃ x, rd_T24 lev (j : Int) = x := ⟨_, rfl⟩
                have hxj : lev[j] = x := by rw [← hx, rd24_at _ j hjl]
                obtain ⟨ad, rfl, x0, x1, x2⟩ := at_T24 (Kd.R_reads' HRW.out).2.2 (j : Int) (by omega) (by omega)
                rw [hx, Int.toNat_natCast] at x0 x1 x2
                have r0 := eq_true (show (0 : Int) ≤ (j : Int) by omega)
                have r1 := eq_true (show (j : Int) < (lev.length : Int) by omega)
                have r2 := eq_true hjl
                have htk : pl ++ lev.take (j + 1) = pl ++ lev.take j ++ [x] := by rw [List.take_succ_eq_append_getElem hjl, hxj, List.append_assoc]
                have hnx : x ∉ pl ++ lev.take j := fun h => (List.mem_append.1 h).elim (HNIN.out x (by rw [← hxj]; exact List.getElem_mem hjl)) (fun h => by
                  obtain ⟨i, hi, he⟩ := List.mem_iff_getElem.1 h
                  rw [List.getElem_take] at he
                  rw [List.length_take] at hi
                  exact (List.pairwise_iff_getElem.1 HND.out i j (by omega) hjl (by omega)) (he.trans hxj.symm))
                have HNX := Aside0.mk (And.intro htk hnx)
                clear htk hnx hx hxj
                go_upto_region 17 with (fail)
                obtain ⟨Wk, hWk⟩ : ∃ Wk, wr.alloc (.cells #[.int .i64 x.f0, .int .i64 x.f1, .int .i64 x.f2] 24) = Wk := ⟨_, rfl⟩
                have hbk : Below wr.heap.size wr Wk := by rw [← hWk]; exact below_alloc (Below.refl _ _) _
                have hkb : Wk.heap[wr.heap.size]? = some (.cells #[.int .i64 x.f0, .int .i64 x.f1, .int .i64 x.f2] 24 (0, 0)) := by rw [← hWk]; exact hb_new _ _
                have y0 : Wk.cell? ⟨wr.heap.size, 0, none⟩ = some (.int .i64 x.f0) := (cells_of_blk hkb 0).trans rfl
                have y1 : Wk.cell? ⟨wr.heap.size, 1, none⟩ = some (.int .i64 x.f1) := (cells_of_blk hkb 1).trans rfl
                have y2 : Wk.cell? ⟨wr.heap.size, 2, none⟩ = some (.int .i64 x.f2) := (cells_of_blk hkb 2).trans rfl
                obtain ⟨W6, hrun, hm6, hg6⟩ := (hC.out.1.below hbk hC.out.1.lt).update keyLaw24 Try.underlying50 x (.int .i64 1)
                rw [mset_ones _ x HNX.out.2, ← HNX.out.1] at hm6
                have hrun' : (Instr.mapUpdate 50 (.map (some b)) (.agg #[.int .i64 x.f0, .int .i64 x.f1, .int .i64 x.f2]) (.int .i64 1)).run Try.prog Wk = .ok () W6 := hrun
                rw [hWk]
                have HFIN := Aside0.mk (show MapIs encK W6 b (ones (pl ++ lev.take (j + 1))) ∧ Chg (fun q => q = b) Wq W6 from ⟨hm6, (hC.out.2.trans (Chg.of_below hbk (fun q h1 h2 => absurd h1 (by omega)) : Chg (fun q => q = b) wr Wk) (fun _ _ h => h)).trans (Chg.of_grown hg6 (fun q h => (Option.some.inj h).symm)) (fun _ _ h => h)⟩)
                clear hm6 hg6 hbk hkb hWk
                go_upto_region 18 with (fail)
                clear hrun hrun' y0 y1 y2 x0 x1 x2
                have hll := HLL.out
                go_wp2
                go_roundg k1
                case measure => omega
                case rel => exact ⟨j + 1, by first | rfl | (rw [wrap_id (by omega) (by omega)]; rfl), by omega, HFIN⟩
        | succ k1 =>
          have c1' : decide ((i : Int) < ((keysK E).length : Int)) = true := decide_eq_true (by omega)
          have hil : i < (keysK E).length := by omega
          have c1'' : decide (i < (keysK E).length) = true := decide_eq_true hil
          obtain ⟨x, hx⟩ : ∃ x, rd_T24 (keysK E) (i : Int) = x := ⟨_, rfl⟩
          have hxi : (keysK E)[i] = x := by rw [← hx, rd24_at _ i hil]
          have hfil := lvl_snoc E pl i hil
          rw [hxi] at hfil
          have hbw : Below w2.heap.size w2 wr := HWR.out.trans (hB.out.2.mono HWR.out.size)
          obtain ⟨ad, rfl, x0, x1, x2⟩ := at_T24 (Kd.C_below HA2.out.2 hbw) (i : Int) (by omega) (by omega)
          rw [hx, Int.toNat_natCast] at x0 x1 x2
          have r0 := eq_true (show (0 : Int) ≤ (i : Int) by omega)
          have r1 := eq_true (show (i : Int) < ((keysK E).length : Int) by omega)
          have r2 := eq_true hil
          have hb1 : Below wr.heap.size wr (wr.alloc (.cells #[.int .i64 x.f0, .int .i64 x.f1, .int .i64 x.f2] 24)) := below_alloc (Below.refl _ _) _
          have hmw : MapIs encK wr b (ones pl) := HMR.out.below hB.out.2 HMR.out.lt
          have HRD := Aside0.mk (ready_calls g mb b E pl x (wr.alloc (.cells #[.int .i64 x.f0, .int .i64 x.f1, .int .i64 x.f2] 24)) ((HG2.out.below hbw).below hb1) HE.out (hmw.below hb1 hmw.lt))
          unfold encK at HRD
          have HFIL := Aside0.mk hfil
          have HB1 := Aside0.mk hb1
          have hkb : (wr.alloc (.cells #[.int .i64 x.f0, .int .i64 x.f1, .int .i64 x.f2] 24)).heap[wr.heap.size]? = some (.cells #[.int .i64 x.f0, .int .i64 x.f1, .int .i64 x.f2] 24 (0, 0)) := hb_new _ _
          have HKB := Aside0.mk hkb
          obtain ⟨bo, hbo⟩ : ∃ bo, readyB E pl x = bo := ⟨_, rfl⟩
          rw [hbo] at HRD HFIL
          clear hil hx hxi hfil hbw hb1 hmw hkb hbo
          cases bo with
          | false =>
            go_wp2_with (first | (go_at_call 27; refine HRD.out.mono ?_; rintro e w9 ⟨rfl, hb9⟩; have HB9 := Aside0.mk hb9; clear hb9))
            have h2 := HFIL.out
            simp only [Bool.false_eq_true, if_false, List.append_nil] at h2
            go_roundg k1
            case measure => omega
            case rel => exact ⟨i + 1, A7, c7, by rw [h2], by first | rfl | (rw [wrap_id (by omega) (by have h1 := keysK_len E; have h3 := HE.out; omega)]; rfl), by omega, ⟨by
              rw [h2]
              exact Kd.R_below (Kd.R_below hB.out.1 HB1.out) HB9.out, (hB.out.2.trans (HB1.out.mono hB.out.2.size)).trans (HB9.out.mono (Nat.le_trans hB.out.2.size HB1.out.size))⟩⟩
          | true =>
            have hlf : (((keysK E).take i).filter (readyB E pl)).length ≤ 800 := by
              have h1 := keysK_len E
              have h3 := HE.out
              have h4 := List.length_filter_le (readyB E pl) ((keysK E).take i)
              rw [List.length_take] at h4
              omega
            obtain ⟨fl, hfl⟩ : ∃ fl, ((keysK E).take i).filter (readyB E pl) = fl := ⟨_, rfl⟩
            simp only [hfl] at hlf hB HFIL ⊢
            go_upto_region 10 with (first | (go_at_call 27; refine HRD.out.mono ?_; rintro e w9 ⟨rfl, hb9⟩; have HB9 := Aside0.mk hb9; clear hb9))
            have hk9 := (HB9.out.block _ (lt_of_blk HKB.out)).trans HKB.out
            have y0 : w9.cell? ⟨wr.heap.size, 0, none⟩ = some (.int .i64 x.f0) := (cells_of_blk hk9 0).trans rfl
            have y1 : w9.cell? ⟨wr.heap.size, 1, none⟩ = some (.int .i64 x.f1) := (cells_of_blk hk9 1).trans rfl
            have y2 : w9.cell? ⟨wr.heap.size, 2, none⟩ = some (.int .i64 x.f2) := (cells_of_blk hk9 2).trans rfl
            have hbw9 : Below Wr.heap.size Wr w9 := (hB.out.2.trans (HB1.out.mono hB.out.2.size)).trans (HB9.out.mono (Nat.le_trans hB.out.2.size HB1.out.size))
            have hr9 := Kd.R_below (Kd.R_below hB.out.1 HB1.out) HB9.out
            have HR9 := Aside0.mk hr9
            have HBW9 := Aside0.mk hbw9
            have hsz9 : Wr.heap.size ≤ w9.heap.size := hbw9.size
            clear hk9 hr9 hbw9
            go_wp2_with (first | ((with_reducible refine gate_builtin (b := .append) (xs := #[.tmp 36, .tmp 38]) rfl ?_); at_builtin; refine stop_ ?_))
            refine ⟨?_⟩
            refine Kd.R_append k24 (w0 := Wr) Wr.heap.size rfl (.tmp 36) (.tmp 38) 27 24 (.agg #[.int .i64 0, .int .i64 0, .int .i64 0]) 24 rfl Try.underlying27 info24_ rfl (by decide) (by omega) (.slice A7 fl.length c7) fl x (rowK x) (fun _ => True) (fun _ => False) rfl rfl (k24_mkM _ _ _ x) (fun _ h => h.elim) (fun _ _ => trivial) HR9.out HBW9.out hsz9 (by omega) ?_
            intro v11 w11 ho11 hb11 hg11 hat11
            obtain ⟨A11, c11, hv⟩ := Kd.R_slice ho11
            subst hv
            have HO11 := Aside0.mk (And.intro ho11 hb11)
            have h2 := HFIL.out
            simp only [if_true] at h2
            clear ho11 hb11 hg11 hat11 y0 y1 y2
            go_wp2
            go_roundg k1
            case measure => omega
            case rel => exact ⟨i + 1, A11, c11, by rw [h2, List.length_append]; rfl, by first | rfl | (rw [wrap_id (by omega) (by have h1 := keysK_len E; have h3 := HE.out; omega)]; rfl), by omega, ⟨by
              rw [h2]
              exact HO11.out.1, HO11.out.2⟩⟩
    · have c0' : decide ((pl.length : Int) < ((keysK E).length : Int)) = false := decide_eq_false (by omega)
      have c0'' : decide (pl.length < (keysK E).length) = false := decide_eq_false hlt
      have HF := Aside0.mk (show levR E = some lv by
        rw [hA.out.1]
        cases gk with
        | zero => unfold levN; rw [if_neg hlt]
        | succ n => unfold levN; rw [if_neg hlt])
      clear hlt
      simp only [c0', c0'']
      go_wp2
      go_ret2
      rw [HF.out]
      refine ⟨_, rfl, Kd.S_lower hA.out.2.2.2.2.2.1 (by have h := HB2.out.size; have h2 := HBW.out; omega), HB2.out.trans (below_drew1 (hA.out.2.2.2.2.2.2.2.mono HB2.out.size))⟩
end
def depgraph_Levels.f (l0 : List S44) : Option (List (List S24) × Int) := some ((levR (edgesP false (l0.take 400))).getD [], levErr (levR (edgesP false (l0.take 400))))
theorem depgraph_Levels.calls (A0 : Option Addr) (c0 : Nat) (l0 : List (S44)) (r1 : List (List S24)) (r2 : Int) (w : World) (hr0 : Kd.C k44 w A0 l0.length l0) (hc0 : l0.length ≤ c0) (h : depgraph_Levels.f l0 = some (r1, r2)) :
    Calls Try.prog 16 #[.slice A0 l0.length c0] w fun e w' => ∃ v0_ : Value, e = .returned (.tuple #[v0_, .int .i64 r2]) ∧ Kd.S (Kd.slice 24 k24) 27 w' w.heap.size (fun _ => True) v0_ r1 ∧ Below w.heap.size w w' := by
  obtain ⟨rfl, rfl⟩ := Prod.mk.inj (Option.some.inj h)
  exact levels_calls A0 c0 l0 w hr0 hc0

end Go.Proofs.Ytofonbfpjfabbaa.QDepgraphLevels
