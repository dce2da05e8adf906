-- Written by gen.py (this repo's wip/), which runs the kit's print.py with more arms. Lean checks it.
import Derived.Test.YtofonbfpjfabbaaQDepgraphReductionx0
import Derived.Test.YtofonbfpjfabbaaQDepgraphReductionx5
namespace Go.Proofs.Ytofonbfpjfabbaa.QDepgraphReduction
open Go.RowKit Go.Proofs.YtofonbfpjfabbaaW.PrintWords Go.Proofs.YtofonbfpjfabbaaW.PrintLast Go.Proofs.YtofonbfpjfabbaaW.PrintMore
attribute [local go_sem] max2_int min2_int max_two min_two max_three min_three max_four min_four   -- for this text's walks alone
set_option linter.unusedVariables false
set_option linter.unusedSimpArgs false

section
open Go.Lib Go.Proofs.Ytofonbfpjfabbaa.Hand Go.Proofs.Ytofonbfpjfabbaa.Aid
/-- The first place where p holds, from i on; -1: none. -/
def idxL (p : S24 → Bool) : List S24 → Int → Int
  | [], _ => -1
  | x :: t, i => if p x = true then i else idxL p t (i + 1)
def idxFrom (p : S24 → Bool) (xs : List S24) (i : Nat) : Int := idxL p (xs.drop i) (i : Int)
def idxP (p : S24 → Bool) (xs : List S24) : Int := idxFrom p xs 0
theorem idxFrom_end (p : S24 → Bool) (xs : List S24) : idxFrom p xs xs.length = -1 := by unfold idxFrom; rw [List.drop_length]; rfl
theorem idxFrom_step (p : S24 → Bool) (xs : List S24) (i : Nat) (h : i < xs.length) : idxFrom p xs i = if p xs[i] = true then (i : Int) else idxFrom p xs (i + 1) := by
  unfold idxFrom
  rw [List.drop_eq_getElem_cons h]
  rfl
set_option maxRecDepth 100000 in
set_option maxHeartbeats 16000000 in
theorem idx42_calls (A : Option Addr) (c : Nat) (xs : List S24) (p : S24 → Bool) (pb : Nat) (w : World) (hr : Kd.C k24 w A xs.length xs) (hl : xs.length < 1000000)
    (hf : ∀ X x, Below w.heap.size w X → Calls Try.prog 42 #[encK x, .pointer (some ⟨pb, 0, none⟩)] X fun e X' => e = .returned (.bool (p x)) ∧ Below X.heap.size X X') :
    Calls Try.prog 25 #[.slice A xs.length c, .func (.func 42) #[] #[.pointer (some ⟨pb, 0, none⟩)]] w fun e w' => e = .returned (.int .i64 (idxP p xs)) ∧ Below w.heap.size w w' := by
  have HR := Aside0.mk hr
  have HL := Aside0.mk hl
  have HF := Aside0.mk hf
  clear hr hl hf
  go_enter Try.func25, Try.ntmps25
  go_wp2
  go_loopg [8] xs.length (fun kq v8 W => ∃ i : Nat, v8 = .int .i64 (i : Int) ∧ kq + i = xs.length ∧ Aside0 (Below w.heap.size w W ∧ idxP p xs = idxFrom p xs i))
  case atStart => exact ⟨0, rfl, by omega, ⟨Below.refl _ _, rfl⟩⟩
  case round =>
    obtain ⟨i, rfl, hi, hA⟩ := hrel
    cases gk with
    | zero =>
      have HIL := Aside0.mk (show i = xs.length by omega)
      have c0' : decide ((i : Int) < (xs.length : Int)) = false := decide_eq_false (by omega)
      have c0'' : decide (i < xs.length) = false := decide_eq_false (by omega)
      clear hi
      go_wp2
      go_ret
      exact ⟨by rw [hA.out.2, HIL.out, idxFrom_end]; rfl, hA.out.1⟩
    | succ k1 =>
      have c0' : decide ((i : Int) < (xs.length : Int)) = true := decide_eq_true (by omega)
      have hil : i < xs.length := by omega
      have c0'' : decide (i < xs.length) = true := decide_eq_true hil
      obtain ⟨x, hx⟩ : ∃ x, rd_T24 xs (i : Int) = x := ⟨_, rfl⟩
      have hxi : xs[i] = x := by rw [← hx, rd24_at xs i hil]
      obtain ⟨ad, rfl, x0, x1, x2⟩ := at_T24 (Kd.C_below HR.out hA.out.1) (i : Int) (by omega) (by omega)
      rw [hx, Int.toNat_natCast] at x0 x1 x2
      have r0 := eq_true (show (0 : Int) ≤ (i : Int) by omega)
      have r1 := eq_true (show (i : Int) < (xs.length : Int) by omega)
      have r2 := eq_true hil
      have HSTEP := Aside0.mk (show idxFrom p xs i = if p x = true then (i : Int) else idxFrom p xs (i + 1) by rw [idxFrom_step p xs i hil, hxi])
      have HC := Aside0.mk (HF.out wr x hA.out.1)
      unfold encK at HC
      obtain ⟨b, hb⟩ : ∃ b, p x = b := ⟨_, rfl⟩
      rw [hb] at HC HSTEP
      clear hil hx hxi hb
      cases b with
      | true =>
        go_wp2_with (first | (go_at_call 42; refine HC.out.mono ?_; rintro e w9 ⟨rfl, hb9⟩; have HB9 := Aside0.mk hb9; clear hb9))
        go_ret
        exact ⟨by rw [hA.out.2, HSTEP.out]; rfl, hA.out.1.trans (HB9.out.mono hA.out.1.size)⟩
      | false =>
        go_wp2_with (first | (go_at_call 42; refine HC.out.mono ?_; rintro e w9 ⟨rfl, hb9⟩; have HB9 := Aside0.mk hb9; clear hb9))
        go_roundg k1
        case measure => omega
        case rel => exact ⟨i + 1, by first | rfl | (rw [wrap_id (by omega) (by have := HL.out; omega)]; rfl), by omega, ⟨hA.out.1.trans (HB9.out.mono hA.out.1.size), by rw [hA.out.2, HSTEP.out]; rfl⟩⟩
set_option maxRecDepth 100000 in
set_option maxHeartbeats 16000000 in
theorem idx26_calls (A : Option Addr) (c : Nat) (xs : List S24) (p : S24 → Bool) (gb pb : Nat) (w : World) (hr : Kd.C k24 w A xs.length xs) (hl : xs.length < 1000000)
    (hf : ∀ X x, Below w.heap.size w X → Calls Try.prog 26 #[encK x, .pointer (some ⟨gb, 0, none⟩), .pointer (some ⟨pb, 0, none⟩)] X fun e X' => e = .returned (.bool (p x)) ∧ Below X.heap.size X X') :
    Calls Try.prog 25 #[.slice A xs.length c, .func (.func 26) #[] #[.pointer (some ⟨gb, 0, none⟩), .pointer (some ⟨pb, 0, none⟩)]] w fun e w' => e = .returned (.int .i64 (idxP p xs)) ∧ Below w.heap.size w w' := by
  have HR := Aside0.mk hr
  have HL := Aside0.mk hl
  have HF := Aside0.mk hf
  clear hr hl hf
  go_enter Try.func25, Try.ntmps25
  go_wp2
  go_loopg [8] xs.length (fun kq v8 W => ∃ i : Nat, v8 = .int .i64 (i : Int) ∧ kq + i = xs.length ∧ Aside0 (Below w.heap.size w W ∧ idxP p xs = idxFrom p xs i))
  case atStart => exact ⟨0, rfl, by omega, ⟨Below.refl _ _, rfl⟩⟩
  case round =>
    obtain ⟨i, rfl, hi, hA⟩ := hrel
    cases gk with
    | zero =>
      have HIL := Aside0.mk (show i = xs.length by omega)
      have c0' : decide ((i : Int) < (xs.length : Int)) = false := decide_eq_false (by omega)
      have c0'' : decide (i < xs.length) = false := decide_eq_false (by omega)
      clear hi
      go_wp2
      go_ret
      exact ⟨by rw [hA.out.2, HIL.out, idxFrom_end]; rfl, hA.out.1⟩
    | succ k1 =>
      have c0' : decide ((i : Int) < (xs.length : Int)) = true := decide_eq_true (by omega)
      have hil : i < xs.length := by omega
      have c0'' : decide (i < xs.length) = true := decide_eq_true hil
      obtain ⟨x, hx⟩ : ∃ x, rd_T24 xs (i : Int) = x := ⟨_, rfl⟩
      have hxi : xs[i] = x := by rw [← hx, rd24_at xs i hil]
      obtain ⟨ad, rfl, x0, x1, x2⟩ := at_T24 (Kd.C_below HR.out hA.out.1) (i : Int) (by omega) (by omega)
      rw [hx, Int.toNat_natCast] at x0 x1 x2
      have r0 := eq_true (show (0 : Int) ≤ (i : Int) by omega)
      have r1 := eq_true (show (i : Int) < (xs.length : Int) by omega)
      have r2 := eq_true hil
      have HSTEP := Aside0.mk (show idxFrom p xs i = if p x = true then (i : Int) else idxFrom p xs (i + 1) by rw [idxFrom_step p xs i hil, hxi])
      have HC := Aside0.mk (HF.out wr x hA.out.1)
      unfold encK at HC
      obtain ⟨b, hb⟩ : ∃ b, p x = b := ⟨_, rfl⟩
      rw [hb] at HC HSTEP
      clear hil hx hxi hb
      cases b with
      | true =>
        go_wp2_with (first | (go_at_call 26; refine HC.out.mono ?_; rintro e w9 ⟨rfl, hb9⟩; have HB9 := Aside0.mk hb9; clear hb9))
        go_ret
        exact ⟨by rw [hA.out.2, HSTEP.out]; rfl, hA.out.1.trans (HB9.out.mono hA.out.1.size)⟩
      | false =>
        go_wp2_with (first | (go_at_call 26; refine HC.out.mono ?_; rintro e w9 ⟨rfl, hb9⟩; have HB9 := Aside0.mk hb9; clear hb9))
        go_roundg k1
        case measure => omega
        case rel => exact ⟨i + 1, by first | rfl | (rw [wrap_id (by omega) (by have := HL.out; omega)]; rfl), by omega, ⟨hA.out.1.trans (HB9.out.mono hA.out.1.size), by rw [hA.out.2, HSTEP.out]; rfl⟩⟩
theorem idxL_neg (p : S24 → Bool) : ∀ (t : List S24) (i : Int), 0 ≤ i → decide (idxL p t i ≥ 0) = t.any p
  | [], i, _ => rfl
  | x :: t, i, h => by
    rw [idxL, List.any_cons]
    by_cases c : p x = true
    · rw [if_pos c, c, Bool.true_or, decide_eq_true h]
    · rw [if_neg c, idxL_neg p t (i + 1) (by omega)]
      simp [c]
set_option maxRecDepth 100000 in
set_option maxHeartbeats 16000000 in
theorem contains42_calls (A : Option Addr) (c : Nat) (xs : List S24) (p : S24 → Bool) (pb : Nat) (w : World) (hr : Kd.C k24 w A xs.length xs) (hl : xs.length < 1000000)
    (hf : ∀ X x, Below w.heap.size w X → Calls Try.prog 42 #[encK x, .pointer (some ⟨pb, 0, none⟩)] X fun e X' => e = .returned (.bool (p x)) ∧ Below X.heap.size X X') :
    Calls Try.prog 31 #[.slice A xs.length c, .func (.func 42) #[] #[.pointer (some ⟨pb, 0, none⟩)]] w fun e w' => e = .returned (.bool (xs.any p)) ∧ Below w.heap.size w w' := by
  have HC := Aside0.mk (idx42_calls A c xs p pb w hr hl hf)
  have HA := Aside0.mk (show decide (idxP p xs ≥ 0) = xs.any p from idxL_neg p xs 0 (Int.le_refl 0))
  clear hr hl hf
  go_enter Try.func31, Try.ntmps31
  go_wp2_with (first | (go_at_call 25; refine HC.out.mono ?_; rintro e w9 ⟨rfl, hb9⟩; have HB9 := Aside0.mk hb9; clear hb9))
  go_ret
  refine ⟨?_, HB9.out⟩
  rw [← HA.out]
  rfl
set_option maxRecDepth 100000 in
set_option maxHeartbeats 16000000 in
theorem unplaced_calls (pb mp : Nat) (pl : List S24) (k : S24) (w : World) (hp : w.cell? ⟨pb, 0, none⟩ = some (.map (some mp))) (hm : MapIs encK w mp (ones pl)) :
    Calls Try.prog 42 #[encK k, .pointer (some ⟨pb, 0, none⟩)] w fun e w' => e = .returned (.bool (!decide (k ∈ pl))) ∧ Below w.heap.size w w' := by
  unfold encK
  obtain ⟨b, hb⟩ : ∃ b, w.heap.size = b := ⟨_, rfl⟩
  obtain ⟨W1, hW1⟩ : ∃ W1, w.alloc (.cells #[.int .i64 k.f0, .int .i64 k.f1, .int .i64 k.f2] 24) = W1 := ⟨_, rfl⟩
  have hb1 : Below w.heap.size w W1 := by rw [← hW1]; exact below_alloc (Below.refl _ _) _
  have hk1 : W1.heap[b]? = some (.cells #[.int .i64 k.f0, .int .i64 k.f1, .int .i64 k.f2] 24 (0, 0)) := by rw [← hb, ← hW1]; exact hb_new _ _
  have hp1 := (hb1.cell (World.block_lt_of_cell? _ _ hp)).trans hp
  have hlk : (Instr.lookup 50 (.map (some mp)) (.agg #[.int .i64 k.f0, .int .i64 k.f1, .int .i64 k.f2]) false).run Try.prog W1 = .ok (.int .i64 (if k ∈ pl then 1 else 0)) W1 := by
    have h := (hm.below hb1 hm.lt).lookup keyLaw24 Try.underlying50 (zero3 W1) k false
    simp only [Bool.false_eq_true, if_false] at h
    rw [mget_ones] at h
    exact h
  have HB1 := Aside0.mk hb1
  have y0 : W1.cell? ⟨b, 0, none⟩ = some (.int .i64 k.f0) := (cells_of_blk hk1 0).trans rfl
  have y1 : W1.cell? ⟨b, 1, none⟩ = some (.int .i64 k.f1) := (cells_of_blk hk1 1).trans rfl
  have y2 : W1.cell? ⟨b, 2, none⟩ = some (.int .i64 k.f2) := (cells_of_blk hk1 2).trans rfl
  clear hp hm hb1 hk1
  go_enter Try.func42, Try.ntmps42
  go_upto_region 1 with (fail)
  try rw [hW1]
  try rw [hb]
  clear hW1
  by_cases hk : k ∈ pl
  · rw [if_pos hk] at hlk
    go_wp2
    go_ret
    exact ⟨by rw [decide_eq_true hk]; rfl, HB1.out⟩
  · rw [if_neg hk] at hlk
    go_wp2
    go_ret
    exact ⟨by rw [decide_eq_false hk]; rfl, HB1.out⟩
/-- Whether a key can be placed now. -/
def readyB (E : List (S24 × S24)) (pl : List S24) (k : S24) : Bool := !decide (k ∈ pl) && !((nextK E k).any (fun x => !decide (x ∈ pl)))
set_option maxRecDepth 100000 in
set_option maxHeartbeats 16000000 in
theorem ready_calls (g mb mp : Nat) (E : List (S24 × S24)) (pl : List S24) (key : S24) (w : World) (hG : GrC g mb E w) (hE : E.length ≤ 400) (hm : MapIs encK w mp (ones pl)) :
    Calls Try.prog 27 #[.pointer (some ⟨g, 0, none⟩), encK key, .map (some mp)] w fun e w' => e = .returned (.bool (readyB E pl key)) ∧ Below w.heap.size w w' := by
  unfold encK
  have HG := Aside0.mk hG
  have HM := Aside0.mk hm
  have HE := Aside0.mk hE
  clear hG hm hE
  go_enter Try.func27, Try.ntmps27
  go_upto_region 2 with (fail)
  obtain ⟨b, hb⟩ : ∃ b, w.heap.size = b := ⟨_, rfl⟩
  obtain ⟨W1, hW1⟩ : ∃ W1, (w.alloc (.cells #[.int .i64 key.f0, .int .i64 key.f1, .int .i64 key.f2] 24)).alloc (.cells #[.map (some mp)] 50) = W1 := ⟨_, rfl⟩
  have hb1 : Below w.heap.size w W1 := by rw [← hW1]; exact below_alloc (below_alloc (Below.refl _ _) _) _
  have hk1 : W1.heap[b]? = some (.cells #[.int .i64 key.f0, .int .i64 key.f1, .int .i64 key.f2] 24 (0, 0)) := by rw [← hb, ← hW1]; exact hb_alloc (hb_new _ _)
  have hp1 : W1.heap[b + 1]? = some (.cells #[.map (some mp)] 50 (0, 0)) := by
    rw [← hb, ← hW1]
    have := hb_new (w.alloc (.cells #[.int .i64 key.f0, .int .i64 key.f1, .int .i64 key.f2] 24)) (.cells #[.map (some mp)] 50)
    rwa [World.size_alloc] at this
  rw [hW1, hb]
  clear hW1
  obtain ⟨Ak, ck, m, h1, h2, h3, h4, h5⟩ := HG.out.below hb1
  obtain ⟨A, c, e7, hc7, hr7⟩ := h5 key
  have HM1 := Aside0.mk (HM.out.below hb1 HM.out.lt)
  obtain ⟨q, hq⟩ : ∃ q : Int, (if key ∈ pl then 1 else 0) = q := ⟨_, rfl⟩
  have HS := Aside0.mk (show ∀ X : World, Below W1.heap.size W1 X → (X.cell? ⟨b + 1, 0, none⟩ = some (.map (some mp)) ∧ X.cell? ⟨b, 0, none⟩ = some (.int .i64 key.f0) ∧ X.cell? ⟨b, 1, none⟩ = some (.int .i64 key.f1) ∧ X.cell? ⟨b, 2, none⟩ = some (.int .i64 key.f2) ∧ X.cell? ⟨g, 0, none⟩ = some (.map (some mb)) ∧ (Instr.lookup 50 (.map (some mp)) (.agg #[.int .i64 key.f0, .int .i64 key.f1, .int .i64 key.f2]) false).run Try.prog X = .ok (.int .i64 q) X ∧ (Instr.lookup 51 (.map (some mb)) (.agg #[.int .i64 key.f0, .int .i64 key.f1, .int .i64 key.f2]) false).run Try.prog X = .ok (.slice A (nextK E key).length c) X) from fun X hX => by
    have hk := (hX.block _ (lt_of_blk hk1)).trans hk1
    have hp := (hX.block _ (lt_of_blk hp1)).trans hp1
    have hg := (hX.block _ (lt_of_blk h1)).trans h1
    refine ⟨(cells_of_blk hp 0).trans rfl, (cells_of_blk hk 0).trans rfl, (cells_of_blk hk 1).trans rfl, (cells_of_blk hk 2).trans rfl, (cells_of_blk hg 0).trans rfl, ?_, ?_⟩
    · have h := (HM1.out.below hX HM1.out.lt).lookup keyLaw24 Try.underlying50 (zero3 X) key false
      simp only [Bool.false_eq_true, if_false] at h
      rw [mget_ones, hq] at h
      exact h
    · have h := (h4.below hX h4.lt).lookup keyLaw24 Try.underlying51 (zero27 X) key false
      rw [e7] at h
      exact h)
  have HB1 := Aside0.mk hb1
  have HR7 := Aside0.mk (And.intro hc7 hr7)
  have hnl := nextK_len E key
  clear h1 h2 h3 h4 h5 e7 hc7 hr7 hk1 hb1
  by_cases hk : key ∈ pl
  · rw [if_pos hk] at hq
    subst hq
    have hres : readyB E pl key = false := by unfold readyB; rw [decide_eq_true hk]; rfl
    refine start_ (n := 16) (S := fun X => X.cell? ⟨b + 1, 0, none⟩ = some (.map (some mp)) ∧ X.cell? ⟨b, 0, none⟩ = some (.int .i64 key.f0) ∧ X.cell? ⟨b, 1, none⟩ = some (.int .i64 key.f1) ∧ X.cell? ⟨b, 2, none⟩ = some (.int .i64 key.f2) ∧ X.cell? ⟨g, 0, none⟩ = some (.map (some mb)) ∧ (Instr.lookup 50 (.map (some mp)) (.agg #[.int .i64 key.f0, .int .i64 key.f1, .int .i64 key.f2]) false).run Try.prog X = .ok (.int .i64 1) X ∧ (Instr.lookup 51 (.map (some mb)) (.agg #[.int .i64 key.f0, .int .i64 key.f1, .int .i64 key.f2]) false).run Try.prog X = .ok (.slice A (nextK E key).length c) X) (ds := ([] : List Nat)) #[false, false, false, false, false, false, false, false, false, false, false, false, false, false, false, false] (by kernel_rfl) rfl rfl (HS.out _ (below_drew1 (Below.refl _ _))) (fun hHeld => ?_)
    refine take_ (i := 0) (N := some 9) (v := ?_) (a' := ?_) #[true, false, false, false, false, false, false, false, false, false, false, false, false, false, false, false] rfl rfl (by kernel_rfl) (fun _ _ _ h => h) (Or.inl ⟨by rfl, ?_⟩) hHeld ?_ ?_
    rotate_left
    · rintro w' ⟨s0_, s1_, s2_, s3_, s4_, s5_, s6_⟩
      go_simp
      with_reducible rfl
    rotate_left
    · simp only [Act.put, List.setIfInBounds_toArray, List.set_cons_zero, List.set_cons_succ, i64_w, i32_w]
      rfl
    refine take_ (i := 1) (N := some 10) (v := ?_) (a' := ?_) #[true, true, false, false, false, false, false, false, false, false, false, false, false, false, false, false] rfl rfl (by kernel_rfl) (fun _ _ _ h => h) (Or.inl ⟨by rfl, ?_⟩) hHeld ?_ ?_
    rotate_left
    · rintro w' ⟨s0_, s1_, s2_, s3_, s4_, s5_, s6_⟩
      go_simp
      with_reducible rfl
    rotate_left
    · simp only [Act.put, List.setIfInBounds_toArray, List.set_cons_zero, List.set_cons_succ, i64_w, i32_w]
      rfl
    refine take_ (i := 2) (N := some 11) (v := ?_) (a' := ?_) #[true, true, true, false, false, false, false, false, false, false, false, false, false, false, false, false] rfl rfl (by kernel_rfl) (fun _ _ _ h => h) (Or.inl ⟨by rfl, ?_⟩) hHeld ?_ ?_
    rotate_left
    · rintro w' ⟨s0_, s1_, s2_, s3_, s4_, s5_, s6_⟩
      go_simp
      with_reducible rfl
    rotate_left
    · simp only [Act.put, List.setIfInBounds_toArray, List.set_cons_zero, List.set_cons_succ, i64_w, i32_w]
      rfl
    refine pure_ (i := 3) (N := some 12) (v := ?_) (a' := ?_) #[true, true, true, true, false, false, false, false, false, false, false, false, false, false, false, false] rfl rfl (by kernel_rfl) (fun _ _ _ h => h) (Or.inl ⟨by rfl, ?_⟩) ?_ ?_
    rotate_left
    · intro w'
      go_simp
      with_reducible rfl
    rotate_left
    · simp only [Act.put, List.setIfInBounds_toArray, List.set_cons_zero, List.set_cons_succ, i64_w, i32_w]
      rfl
    refine pure_ (i := 4) (N := some 13) (v := ?_) (a' := ?_) #[true, true, true, true, true, false, false, false, false, false, false, false, false, false, false, false] rfl rfl (by kernel_rfl) (fun _ _ _ h => h) (Or.inl ⟨by rfl, ?_⟩) ?_ ?_
    rotate_left
    · intro w'
      go_simp
      with_reducible rfl
    rotate_left
    · simp only [Act.put, List.setIfInBounds_toArray, List.set_cons_zero, List.set_cons_succ, i64_w, i32_w]
      rfl
    refine pure_ (i := 5) (N := some 14) (v := undef) (a' := ?_) #[true, true, true, true, true, true, false, false, false, false, false, false, false, false, false, false] rfl rfl (by kernel_rfl) (fun _ _ _ h => h) (Or.inr ⟨by rfl, rfl⟩) ?_ ?_
    rotate_left
    · simp only [Act.put, List.setIfInBounds_toArray, List.set_cons_zero, List.set_cons_succ, i64_w, i32_w]
      rfl
    refine pure_ (i := 6) (N := some 15) (v := undef) (a' := ?_) #[true, true, true, true, true, true, true, false, false, false, false, false, false, false, false, false] rfl rfl (by kernel_rfl) (fun _ _ _ h => h) (Or.inr ⟨by rfl, rfl⟩) ?_ ?_
    rotate_left
    · simp only [Act.put, List.setIfInBounds_toArray, List.set_cons_zero, List.set_cons_succ, i64_w, i32_w]
      rfl
    refine pure_ (i := 7) (N := some 16) (v := undef) (a' := ?_) #[true, true, true, true, true, true, true, true, false, false, false, false, false, false, false, false] rfl rfl (by kernel_rfl) (fun _ _ _ h => h) (Or.inr ⟨by rfl, rfl⟩) ?_ ?_
    rotate_left
    · simp only [Act.put, List.setIfInBounds_toArray, List.set_cons_zero, List.set_cons_succ, i64_w, i32_w]
      rfl
    refine pure_ (i := 8) (N := some 17) (v := undef) (a' := ?_) #[true, true, true, true, true, true, true, true, true, false, false, false, false, false, false, false] rfl rfl (by kernel_rfl) (fun _ _ _ h => h) (Or.inr ⟨by rfl, rfl⟩) ?_ ?_
    rotate_left
    · simp only [Act.put, List.setIfInBounds_toArray, List.set_cons_zero, List.set_cons_succ, i64_w, i32_w]
      rfl
    refine pure_ (i := 9) (N := some 18) (v := undef) (a' := ?_) #[true, true, true, true, true, true, true, true, true, true, false, false, false, false, false, false] rfl rfl (by kernel_rfl) (fun _ _ _ h => h) (Or.inr ⟨by rfl, rfl⟩) ?_ ?_
    rotate_left
    · simp only [Act.put, List.setIfInBounds_toArray, List.set_cons_zero, List.set_cons_succ, i64_w, i32_w]
      rfl
    refine pure_ (i := 10) (N := some 19) (v := undef) (a' := ?_) #[true, true, true, true, true, true, true, true, true, true, true, false, false, false, false, false] rfl rfl (by kernel_rfl) (fun _ _ _ h => h) (Or.inr ⟨by rfl, rfl⟩) ?_ ?_
    rotate_left
    · simp only [Act.put, List.setIfInBounds_toArray, List.set_cons_zero, List.set_cons_succ, i64_w, i32_w]
      rfl
    refine pure_ (i := 11) (N := some 20) (v := undef) (a' := ?_) #[true, true, true, true, true, true, true, true, true, true, true, true, false, false, false, false] rfl rfl (by kernel_rfl) (fun _ _ _ h => h) (Or.inr ⟨by rfl, rfl⟩) ?_ ?_
    rotate_left
    · simp only [Act.put, List.setIfInBounds_toArray, List.set_cons_zero, List.set_cons_succ, i64_w, i32_w]
      rfl
    refine pure_ (i := 12) (N := some 21) (v := undef) (a' := ?_) #[true, true, true, true, true, true, true, true, true, true, true, true, true, false, false, false] rfl rfl (by kernel_rfl) (fun _ _ _ h => h) (Or.inr ⟨by rfl, rfl⟩) ?_ ?_
    rotate_left
    · simp only [Act.put, List.setIfInBounds_toArray, List.set_cons_zero, List.set_cons_succ, i64_w, i32_w]
      rfl
    refine pure_ (i := 13) (N := some 22) (v := undef) (a' := ?_) #[true, true, true, true, true, true, true, true, true, true, true, true, true, true, false, false] rfl rfl (by kernel_rfl) (fun _ _ _ h => h) (Or.inr ⟨by rfl, rfl⟩) ?_ ?_
    rotate_left
    · simp only [Act.put, List.setIfInBounds_toArray, List.set_cons_zero, List.set_cons_succ, i64_w, i32_w]
      rfl
    refine pure_ (i := 14) (N := some 23) (v := ?_) (a' := ?_) #[true, true, true, true, true, true, true, true, true, true, true, true, true, true, true, false] rfl rfl (by kernel_rfl) (fun _ _ _ h => h) (Or.inl ⟨by rfl, ?_⟩) ?_ ?_
    rotate_left
    · intro w'
      go_simp
      with_reducible rfl
    rotate_left
    · simp only [Act.put, List.setIfInBounds_toArray, List.set_cons_zero, List.set_cons_succ, i64_w, i32_w]
      rfl
    refine pure_ (i := 15) (N := some 6) (v := ?_) (a' := ?_) #[true, true, true, true, true, true, true, true, true, true, true, true, true, true, true, true] rfl rfl (by kernel_rfl) (fun _ _ _ h => h) (Or.inl ⟨by rfl, ?_⟩) ?_ ?_
    rotate_left
    · intro w'
      go_simp
      with_reducible rfl
    rotate_left
    · simp only [Act.put, List.setIfInBounds_toArray, List.set_cons_zero, List.set_cons_succ, i64_w, i32_w]
      rfl
    refine done_ (by kernel_rfl) ?_
    go_wp2
    go_ret
    exact ⟨by rw [hres]; rfl, below_drew1 HB1.out⟩
  · rw [if_neg hk] at hq
    subst hq
    have hres : readyB E pl key = !((nextK E key).any (fun x => !decide (x ∈ pl))) := by unfold readyB; rw [decide_eq_false hk]; rfl
    refine start_ (n := 16) (S := fun X => X.cell? ⟨b + 1, 0, none⟩ = some (.map (some mp)) ∧ X.cell? ⟨b, 0, none⟩ = some (.int .i64 key.f0) ∧ X.cell? ⟨b, 1, none⟩ = some (.int .i64 key.f1) ∧ X.cell? ⟨b, 2, none⟩ = some (.int .i64 key.f2) ∧ X.cell? ⟨g, 0, none⟩ = some (.map (some mb)) ∧ (Instr.lookup 50 (.map (some mp)) (.agg #[.int .i64 key.f0, .int .i64 key.f1, .int .i64 key.f2]) false).run Try.prog X = .ok (.int .i64 0) X ∧ (Instr.lookup 51 (.map (some mb)) (.agg #[.int .i64 key.f0, .int .i64 key.f1, .int .i64 key.f2]) false).run Try.prog X = .ok (.slice A (nextK E key).length c) X) (ds := [12]) #[false, false, false, false, false, false, false, false, false, false, false, false, false, false, false, false] (by kernel_rfl) rfl rfl (HS.out _ (below_drew1 (Below.refl _ _))) (fun hHeld => ?_)
    refine take_ (i := 0) (N := some 9) (v := ?_) (a' := ?_) #[true, false, false, false, false, false, false, false, false, false, false, false, false, false, false, false] rfl rfl (by kernel_rfl) (fun _ _ _ h => h) (Or.inl ⟨by rfl, ?_⟩) hHeld ?_ ?_
    rotate_left
    · rintro w' ⟨s0_, s1_, s2_, s3_, s4_, s5_, s6_⟩
      go_simp
      with_reducible rfl
    rotate_left
    · simp only [Act.put, List.setIfInBounds_toArray, List.set_cons_zero, List.set_cons_succ, i64_w, i32_w]
      rfl
    refine take_ (i := 1) (N := some 10) (v := ?_) (a' := ?_) #[true, true, false, false, false, false, false, false, false, false, false, false, false, false, false, false] rfl rfl (by kernel_rfl) (fun _ _ _ h => h) (Or.inl ⟨by rfl, ?_⟩) hHeld ?_ ?_
    rotate_left
    · rintro w' ⟨s0_, s1_, s2_, s3_, s4_, s5_, s6_⟩
      go_simp
      with_reducible rfl
    rotate_left
    · simp only [Act.put, List.setIfInBounds_toArray, List.set_cons_zero, List.set_cons_succ, i64_w, i32_w]
      rfl
    refine take_ (i := 2) (N := some 11) (v := ?_) (a' := ?_) #[true, true, true, false, false, false, false, false, false, false, false, false, false, false, false, false] rfl rfl (by kernel_rfl) (fun _ _ _ h => h) (Or.inl ⟨by rfl, ?_⟩) hHeld ?_ ?_
    rotate_left
    · rintro w' ⟨s0_, s1_, s2_, s3_, s4_, s5_, s6_⟩
      go_simp
      with_reducible rfl
    rotate_left
    · simp only [Act.put, List.setIfInBounds_toArray, List.set_cons_zero, List.set_cons_succ, i64_w, i32_w]
      rfl
    refine pure_ (i := 3) (N := some 12) (v := ?_) (a' := ?_) #[true, true, true, true, false, false, false, false, false, false, false, false, false, false, false, false] rfl rfl (by kernel_rfl) (fun _ _ _ h => h) (Or.inl ⟨by rfl, ?_⟩) ?_ ?_
    rotate_left
    · intro w'
      go_simp
      with_reducible rfl
    rotate_left
    · simp only [Act.put, List.setIfInBounds_toArray, List.set_cons_zero, List.set_cons_succ, i64_w, i32_w]
      rfl
    refine pure_ (i := 4) (N := some 13) (v := ?_) (a' := ?_) #[true, true, true, true, true, false, false, false, false, false, false, false, false, false, false, false] rfl rfl (by kernel_rfl) (fun _ _ _ h => h) (Or.inl ⟨by rfl, ?_⟩) ?_ ?_
    rotate_left
    · intro w'
      go_simp
      with_reducible rfl
    rotate_left
    · simp only [Act.put, List.setIfInBounds_toArray, List.set_cons_zero, List.set_cons_succ, i64_w, i32_w]
      rfl
    refine pure_ (i := 5) (N := some 14) (v := ?_) (a' := ?_) #[true, true, true, true, true, true, false, false, false, false, false, false, false, false, false, false] rfl rfl (by kernel_rfl) (fun _ _ _ h => h) (Or.inl ⟨by rfl, ?_⟩) ?_ ?_
    rotate_left
    · intro w'
      go_simp
      with_reducible rfl
    rotate_left
    · simp only [Act.put, List.setIfInBounds_toArray, List.set_cons_zero, List.set_cons_succ, i64_w, i32_w]
      rfl
    refine pure_ (i := 6) (N := some 15) (v := ?_) (a' := ?_) #[true, true, true, true, true, true, true, false, false, false, false, false, false, false, false, false] rfl rfl (by kernel_rfl) (fun _ _ _ h => h) (Or.inl ⟨by rfl, ?_⟩) ?_ ?_
    rotate_left
    · intro w'
      go_simp
      with_reducible rfl
    rotate_left
    · simp only [Act.put, List.setIfInBounds_toArray, List.set_cons_zero, List.set_cons_succ, i64_w, i32_w]
      rfl
    refine pure_ (i := 7) (N := some 16) (v := ?_) (a' := ?_) #[true, true, true, true, true, true, true, true, false, false, false, false, false, false, false, false] rfl rfl (by kernel_rfl) (fun _ _ _ h => h) (Or.inl ⟨by rfl, ?_⟩) ?_ ?_
    rotate_left
    · intro w'
      go_simp
      with_reducible rfl
    rotate_left
    · simp only [Act.put, List.setIfInBounds_toArray, List.set_cons_zero, List.set_cons_succ, i64_w, i32_w]
      rfl
    refine take_ (i := 8) (N := some 17) (v := ?_) (a' := ?_) #[true, true, true, true, true, true, true, true, true, false, false, false, false, false, false, false] rfl rfl (by kernel_rfl) (fun _ _ _ h => h) (Or.inl ⟨by rfl, ?_⟩) hHeld ?_ ?_
    rotate_left
    · rintro w' ⟨s0_, s1_, s2_, s3_, s4_, s5_, s6_⟩
      go_simp
      with_reducible rfl
    rotate_left
    · simp only [Act.put, List.setIfInBounds_toArray, List.set_cons_zero, List.set_cons_succ, i64_w, i32_w]
      rfl
    refine take_ (i := 9) (N := some 18) (v := ?_) (a' := ?_) #[true, true, true, true, true, true, true, true, true, true, false, false, false, false, false, false] rfl rfl (by kernel_rfl) (fun _ _ _ h => h) (Or.inl ⟨by rfl, ?_⟩) hHeld ?_ ?_
    rotate_left
    · rintro w' ⟨s0_, s1_, s2_, s3_, s4_, s5_, s6_⟩
      go_simp
      with_reducible rfl
    rotate_left
    · simp only [Act.put, List.setIfInBounds_toArray, List.set_cons_zero, List.set_cons_succ, i64_w, i32_w]
      rfl
    refine take_ (i := 10) (N := some 19) (v := ?_) (a' := ?_) #[true, true, true, true, true, true, true, true, true, true, true, false, false, false, false, false] rfl rfl (by kernel_rfl) (fun _ _ _ h => h) (Or.inl ⟨by rfl, ?_⟩) hHeld ?_ ?_
    rotate_left
    · rintro w' ⟨s0_, s1_, s2_, s3_, s4_, s5_, s6_⟩
      go_simp
      with_reducible rfl
    rotate_left
    · simp only [Act.put, List.setIfInBounds_toArray, List.set_cons_zero, List.set_cons_succ, i64_w, i32_w]
      rfl
    refine pure_ (i := 11) (N := some 20) (v := ?_) (a' := ?_) #[true, true, true, true, true, true, true, true, true, true, true, true, false, false, false, false] rfl rfl (by kernel_rfl) (fun _ _ _ h => h) (Or.inl ⟨by rfl, ?_⟩) ?_ ?_
    rotate_left
    · intro w'
      go_simp
      with_reducible rfl
    rotate_left
    · simp only [Act.put, List.setIfInBounds_toArray, List.set_cons_zero, List.set_cons_succ, i64_w, i32_w]
      rfl
    refine last_ (i := 12) (N := some 21) #[true, true, true, true, true, true, true, true, true, true, true, true, true, false, false, false] rfl rfl (by kernel_rfl) (by decide) (fun K hK => ?_)
    refine goes_ Try.func31 (by kernel_rfl) rfl #[.slice A (nextK E key).length c, .func (.func 42) #[] #[.pointer (some ⟨b + 1, 0, none⟩)]] (by rfl) rfl rfl (by (try simp only [List.map_toArray, List.map_cons, List.map_nil]); first | done | rfl) ?_
    refine (contains42_calls A c (nextK E key) (fun x => !decide (x ∈ pl)) (b + 1) W1.drew (Kd.C_drew HR7.out.2) (by have := HE.out; omega) (fun X x hX => ?_)).mono ?_
    · have hX' : Below W1.heap.size W1 X := (below_drew1 (Below.refl _ _)).trans hX
      exact unplaced_calls (b + 1) mp pl x X (HS.out X hX').1 (HM1.out.below hX' HM1.out.lt)
    rintro e w3 ⟨rfl, hb3⟩
    refine ⟨_, rfl, ?_⟩
    refine hK.out _ _ ?_
    clear hK K hHeld
    obtain ⟨r, hr⟩ : ∃ r, (nextK E key).any (fun x => !decide (x ∈ pl)) = r := ⟨_, rfl⟩
    rw [hr] at hres ⊢
    clear hr
    refine norm_ (a' := ?_) ?_ ?_
    rotate_left
    · show Act.put _ (some 21) _ = _
      simp only [Act.put, List.setIfInBounds_toArray, List.set_cons_zero, List.set_cons_succ, i64_w, i32_w]
      rfl
    refine pure_ (i := 13) (N := some 22) (v := ?_) (a' := ?_) #[true, true, true, true, true, true, true, true, true, true, true, true, true, true, false, false] rfl rfl (by kernel_rfl) (fun _ _ _ h => h) (Or.inl ⟨by rfl, ?_⟩) ?_ ?_
    rotate_left
    · intro w'
      go_simp
      with_reducible rfl
    rotate_left
    · simp only [Act.put, List.setIfInBounds_toArray, List.set_cons_zero, List.set_cons_succ, i64_w, i32_w]
      rfl
    refine pure_ (i := 14) (N := some 23) (v := ?_) (a' := ?_) #[true, true, true, true, true, true, true, true, true, true, true, true, true, true, true, false] rfl rfl (by kernel_rfl) (fun _ _ _ h => h) (Or.inl ⟨by rfl, ?_⟩) ?_ ?_
    rotate_left
    · intro w'
      go_simp
      with_reducible rfl
    rotate_left
    · simp only [Act.put, List.setIfInBounds_toArray, List.set_cons_zero, List.set_cons_succ, i64_w, i32_w]
      rfl
    refine pure_ (i := 15) (N := some 6) (v := ?_) (a' := ?_) #[true, true, true, true, true, true, true, true, true, true, true, true, true, true, true, true] rfl rfl (by kernel_rfl) (fun _ _ _ h => h) (Or.inl ⟨by rfl, ?_⟩) ?_ ?_
    rotate_left
    · intro w'
      go_simp
      with_reducible rfl
    rotate_left
    · simp only [Act.put, List.setIfInBounds_toArray, List.set_cons_zero, List.set_cons_succ, i64_w, i32_w]
      rfl
    refine done_ (by kernel_rfl) ?_
    go_wp2
    go_ret
    exact ⟨by rw [hres]; rfl, HB1.out.trans (((below_drew1 (Below.refl W1.heap.size W1)).trans hb3).mono HB1.out.size)⟩
end
section
open Go.Lib Go.Proofs.Ytofonbfpjfabbaa.Hand Go.Proofs.Ytofonbfpjfabbaa.Aid
set_option maxRecDepth 100000 in
set_option maxHeartbeats 16000000 in
theorem ready26_calls (gb pb g mb mp : Nat) (E : List (S24 × S24)) (pl : List S24) (k : S24) (w : World) (hgb : w.cell? ⟨gb, 0, none⟩ = some (.pointer (some ⟨g, 0, none⟩))) (hpb : w.cell? ⟨pb, 0, none⟩ = some (.map (some mp))) (hG : GrC g mb E w) (hE : E.length ≤ 400) (hm : MapIs encK w mp (ones pl)) :
    Calls Try.prog 26 #[encK k, .pointer (some ⟨gb, 0, none⟩), .pointer (some ⟨pb, 0, none⟩)] w fun e w' => e = .returned (.bool (readyB E pl k)) ∧ Below w.heap.size w w' := by
  have HR := Aside0.mk (ready_calls g mb mp E pl k (w.alloc (.cells #[.int .i64 k.f0, .int .i64 k.f1, .int .i64 k.f2] 24)) (hG.below (below_alloc (Below.refl _ _) _)) hE (hm.below (below_alloc (Below.refl _ _) _) hm.lt))
  unfold encK at HR ⊢
  have hb1 : Below w.heap.size w (w.alloc (.cells #[.int .i64 k.f0, .int .i64 k.f1, .int .i64 k.f2] 24)) := below_alloc (Below.refl _ _) _
  have y0 := (hb1.cell (World.block_lt_of_cell? _ _ hgb)).trans hgb
  have y1 := (hb1.cell (World.block_lt_of_cell? _ _ hpb)).trans hpb
  have HB1 := Aside0.mk hb1
  clear hG hm hb1 hgb hpb
  go_enter Try.func26, Try.ntmps26
  go_wp2_with (first | (go_at_call 27; refine HR.out.mono ?_; rintro e w9 ⟨rfl, hb9⟩; have HB9 := Aside0.mk hb9; clear hb9))
  go_ret
  exact ⟨rfl, HB1.out.trans (HB9.out.mono HB1.out.size)⟩
theorem idxL_get (p : S24 → Bool) : ∀ (t : List S24) (i : Int), 0 ≤ i → 0 ≤ idxL p t i → ∃ (j : Nat) (x : S24), idxL p t i = i + (j : Int) ∧ t[j]? = some x ∧ p x = true
  | [], i, _, h => by rw [idxL] at h; omega
  | x :: t, i, h0, h => by
    rw [idxL] at h ⊢
    by_cases c : p x = true
    · rw [if_pos c]
      exact ⟨0, x, by simp, rfl, c⟩
    · rw [if_neg c] at h ⊢
      obtain ⟨j, y, h1, h2, h3⟩ := idxL_get p t (i + 1) (by omega) h
      exact ⟨j + 1, y, by rw [h1]; omega, by simpa using h2, h3⟩
/-- The order as it is built: none when no key can be placed. -/
def topoN (E : List (S24 × S24)) : Nat → List S24 → Option (List S24)
  | 0, pl => some pl
  | n + 1, pl => match (keysK E).find? (readyB E pl) with
    | some x => topoN E n (pl ++ [x])
    | none => none
def topoR (E : List (S24 × S24)) : Option (List S24) := topoN E (keysK E).length []
theorem idxL_find (p : S24 → Bool) : ∀ (t : List S24) (i : Int), 0 ≤ i → (idxL p t i < 0 ↔ t.find? p = none)
  | [], i, h => by rw [idxL]; simp
  | x :: t, i, h => by
    rw [idxL, List.find?_cons]
    by_cases c : p x = true
    · rw [if_pos c, c]; simp; omega
    · rw [if_neg c, idxL_find p t (i + 1) (by omega)]
      simp [c]
theorem idxL_findS (p : S24 → Bool) : ∀ (t : List S24) (i : Int) (x : S24), 0 ≤ i → t.find? p = some x → ∃ j : Nat, idxL p t i = i + (j : Int) ∧ t[j]? = some x
  | [], i, x, _, h => by simp at h
  | y :: t, i, x, h0, h => by
    rw [idxL]
    rw [List.find?_cons] at h
    by_cases c : p y = true
    · rw [c] at h
      simp only at h
      obtain rfl := Option.some.inj h
      rw [if_pos c]
      exact ⟨0, by simp, rfl⟩
    · rw [if_neg c]
      have c' : p y = false := by simpa using c
      rw [c'] at h
      obtain ⟨j, h1, h2⟩ := idxL_findS p t (i + 1) x (by omega) h
      exact ⟨j + 1, by rw [h1]; omega, by simpa using h2⟩
def topoOut (o : Option (List S24)) : List S24 := o.getD []
def topoErr (o : Option (List S24)) : Int := if o.isSome then 0 else 8
set_option maxRecDepth 100000 in
set_option maxHeartbeats 16000000 in
theorem topo_calls (A0 : Option Addr) (c0 : Nat) (l0 : List S44) (w : World) (hr0 : Kd.C k44 w A0 l0.length l0) (hc0 : l0.length ≤ c0) :
    Calls Try.prog 13 #[.slice A0 l0.length c0] w fun e w' => ∃ v, e = .returned (.tuple #[v, .int .i64 (topoErr (topoR (edgesP false (l0.take 400))))]) ∧ Kd.R k24 24 w' w.heap.size (fun _ => True) v (topoOut (topoR (edgesP false (l0.take 400)))) ∧ Below w.heap.size w w' := by
  have HN := Aside0.mk (newGraph_calls A0 c0 l0 false w hr0 hc0)
  have hE : (edgesP false (l0.take 400)).length ≤ 400 := by unfold edgesP; rw [List.length_map, List.length_take]; omega
  obtain ⟨E, hEd⟩ : ∃ E, edgesP false (l0.take 400) = E := ⟨_, rfl⟩
  have hmm := @run_makeMap Try.prog
  unfold NgPost at HN
  rw [hEd] at HN hE ⊢
  have HE := Aside0.mk hE
  clear hE hEd hr0 hc0
  go_enter Try.func13, Try.ntmps13
  go_upto_region 3 with (first | (go_at_call 21; refine HN.out.mono ?_; rintro e w2 ⟨g, mb, rfl, hg2, hb2⟩; have HG2 := Aside0.mk hg2; have HB2 := Aside0.mk hb2; clear hg2 hb2))
  obtain ⟨b, hb⟩ : ∃ b, w2.heap.size = b := ⟨_, rfl⟩
  obtain ⟨W3, hW3⟩ : ∃ W3, ((w2.alloc (.cells #[.pointer (some ⟨g, 0, none⟩)] 45)).alloc (.map #[] 0)).alloc (.cells #[.map (some (w2.heap.size + 1))] 50) = W3 := ⟨_, rfl⟩
  have hb3 : Below w2.heap.size w2 W3 := by rw [← hW3]; exact below_alloc (below_alloc (below_alloc (Below.refl _ _) _) _) _
  have hg3 : W3.heap[b]? = some (.cells #[.pointer (some ⟨g, 0, none⟩)] 45 (0, 0)) := by rw [← hb, ← hW3]; exact hb_alloc (hb_alloc (hb_new _ _))
  have hm3 : MapIs encK W3 (b + 1) (ones []) := by
    rw [← hb, ← hW3]
    have := (MapIs.new (enc := encK) (w2.alloc (.cells #[.pointer (some ⟨g, 0, none⟩)] 45))).below (below_alloc (Below.refl _ (w2.alloc (.cells #[.pointer (some ⟨g, 0, none⟩)] 45) |>.alloc (.map #[] 0))) (.cells #[.map (some (w2.heap.size + 1))] 50)) (by simp)
    rwa [World.size_alloc] at this
  have hp3 : W3.heap[b + 2]? = some (.cells #[.map (some (b + 1))] 50 (0, 0)) := by
    rw [← hb, ← hW3]
    have := hb_new ((w2.alloc (.cells #[.pointer (some ⟨g, 0, none⟩)] 45)).alloc (.map #[] 0)) (.cells #[.map (some (w2.heap.size + 1))] 50)
    rwa [World.size_alloc, World.size_alloc] at this
  have hz3 : W3.heap.size = b + 3 := by rw [← hb, ← hW3]; simp
  rw [hW3]
  simp only [hb]
  have HBW := Aside0.mk hb
  have HB3 := Aside0.mk hb3
  have HG3 := Aside0.mk hg3
  have HM3 := Aside0.mk hm3
  have HP3 := Aside0.mk hp3
  have HZ3 := Aside0.mk hz3
  clear hW3 hb hb3 hg3 hm3 hp3 hz3 hmm HN
  obtain ⟨Ak, ck, mm, hA1, hA2, hA3, hA4, hA5⟩ := HG2.out
  have HA1 := Aside0.mk hA1
  have HA2 := Aside0.mk (And.intro hA2 hA3)
  clear hA1 hA2 hA3 hA4 hA5
  go_wp2
  go_loopg [6] (keysK E).length (fun kq v6 W => ∃ (pl : List S24) (A6 : Option Addr) (c6 : Nat), v6 = .slice A6 pl.length c6 ∧ kq + pl.length = (keysK E).length ∧ Aside0 (topoR E = topoN E kq pl ∧ Kd.R k24 24 W (b + 3) (fun _ => True) (.slice A6 pl.length c6) pl ∧ MapIs encK W (b + 1) (ones pl) ∧ W.heap[b]? = some (.cells #[.pointer (some ⟨g, 0, none⟩)] 45 (0, 0)) ∧ W.heap[b + 2]? = some (.cells #[.map (some (b + 1))] 50 (0, 0)) ∧ Below w2.heap.size w2 W))
  case atStart => exact ⟨[], none, 0, rfl, by simp, ⟨rfl, Kd.R_nil _ _ _ _ _, HM3.out, HG3.out, HP3.out, HB3.out⟩⟩
  case round =>
    obtain ⟨pl, A6, c6, rfl, hk, hA⟩ := hrel
    obtain ⟨ht, hr, hm, hg, hp, hbl⟩ := hA.out
    have h1 := (hbl.block _ (lt_of_blk HA1.out)).trans HA1.out
    have HGR := Aside0.mk (HG2.out.below hbl)
    have HK := Aside0.mk (And.intro HA2.out.1 (Kd.C_below HA2.out.2 hbl))
    have z0 : wr.cell? ⟨b, 0, none⟩ = some (.pointer (some ⟨g, 0, none⟩)) := (cells_of_blk hg 0).trans rfl
    have z1 : wr.cell? ⟨g, 1, none⟩ = some (.slice Ak (keysK E).length ck) := (cells_of_blk h1 1).trans rfl
    have HT := Aside0.mk ht
    clear h1 ht hr hm hg hp hbl
    cases gk with
    | zero =>
      have c0' : decide ((pl.length : Int) < ((keysK E).length : Int)) = false := decide_eq_false (by omega)
      have c0'' : decide (pl.length < (keysK E).length) = false := decide_eq_false (by omega)
      clear hk
      go_wp2
      go_ret2
      have e : topoR E = some pl := HT.out
      rw [e]
      refine ⟨_, rfl, Kd.R_lower hA.out.2.1 (by have h := HB2.out.size; have h2 := HBW.out; omega), HB2.out.trans (hA.out.2.2.2.2.2.mono HB2.out.size)⟩
    | succ k1 =>
      have c0' : decide ((pl.length : Int) < ((keysK E).length : Int)) = true := decide_eq_true (by omega)
      have c0'' : decide (pl.length < (keysK E).length) = true := decide_eq_true (by omega)
      have HI := Aside0.mk (idx26_calls Ak ck (keysK E) (readyB E pl) b (b + 2) wr HK.out.2 (by have h1 := keysK_len E; have h2 := HE.out; omega) (fun X x hX => ready26_calls b (b + 2) g mb (b + 1) E pl x X ((cells_of_blk ((hX.block _ (lt_of_blk hA.out.2.2.2.1)).trans hA.out.2.2.2.1) 0).trans rfl) ((cells_of_blk ((hX.block _ (lt_of_blk hA.out.2.2.2.2.1)).trans hA.out.2.2.2.2.1) 0).trans rfl) (HGR.out.below hX) HE.out (hA.out.2.2.1.below hX hA.out.2.2.1.lt)))
      cases hf : (keysK E).find? (readyB E pl) with
      | none =>
        have hneg : idxP (readyB E pl) (keysK E) < 0 := (idxL_find (readyB E pl) (keysK E) 0 (Int.le_refl 0)).2 hf
        obtain ⟨i, hi⟩ : ∃ i, idxP (readyB E pl) (keysK E) = i := ⟨_, rfl⟩
        rw [hi] at HI hneg
        have c1 : decide (i < 0) = true := decide_eq_true hneg
        have HF := Aside0.mk (show topoR E = none by rw [HT.out]; unfold topoN; rw [hf])
        clear hf hi
        go_wp2_with (first | (go_at_call 25; refine HI.out.mono ?_; rintro e w9 ⟨rfl, hb9⟩; have HB9 := Aside0.mk hb9; clear hb9))
        go_ret2
        rw [HF.out]
        exact ⟨_, rfl, Kd.R_nil _ _ _ _ _, HB2.out.trans ((hA.out.2.2.2.2.2.mono HB2.out.size).trans (HB9.out.mono (Nat.le_trans HB2.out.size hA.out.2.2.2.2.2.size)))⟩
      | some x =>
        obtain ⟨j, hj, hjx⟩ := idxL_findS (readyB E pl) (keysK E) 0 x (Int.le_refl 0) hf
        have hi : idxP (readyB E pl) (keysK E) = (j : Int) := by
          have : idxP (readyB E pl) (keysK E) = idxL (readyB E pl) (keysK E) 0 := rfl
          rw [this, hj]; omega
        rw [hi] at HI
        have hjl := (List.getElem?_eq_some_iff.1 hjx).1
        have hxj : rd_T24 (keysK E) (j : Int) = x := by rw [rd24_at _ _ hjl]; exact (List.getElem?_eq_some_iff.1 hjx).2
        have hrdy : readyB E pl x = true := List.find?_some hf
        have hnp : x ∉ pl := fun h => by unfold readyB at hrdy; rw [decide_eq_true h] at hrdy; cases hrdy
        have HF := Aside0.mk (show topoR E = topoN E k1 (pl ++ [x]) by rw [HT.out]; conv => lhs; unfold topoN; rw [hf])
        have c1 : decide ((j : Int) < 0) = false := decide_eq_false (by omega)
        have HNP := Aside0.mk hnp
        clear hf hi hj hrdy hnp
        go_upto_region 8 with (first | (go_at_call 25; refine HI.out.mono ?_; rintro e w9 ⟨rfl, hb9⟩; have HB9 := Aside0.mk hb9; clear hb9))
        obtain ⟨_, hr, hm, hg, hp, hbl⟩ := hA.out
        have hb9 := HB9.out
        have hw2 := HBW.out
        have hr9 := Kd.R_below hr hb9
        have hm9 := hm.below hb9 hm.lt
        have hg9 := (hb9.block _ (lt_of_blk hg)).trans hg
        have hp9 := (hb9.block _ (lt_of_blk hp)).trans hp
        have hbl9 : Below w2.heap.size w2 w9 := hbl.trans (hb9.mono hbl.size)
        obtain ⟨ad, rfl, _, _, _⟩ := at_T24 HA2.out.2 (j : Int) (by omega) (by omega)
        have HSK := Aside0.mk (show ∀ X, Below w2.heap.size w2 X → (X.cell? ⟨g, 1, none⟩ = some (.slice (some ad) (keysK E).length ck) ∧ X.cell? (ad.add (j * 3)) = some (.int .i64 x.f0) ∧ X.cell? ⟨(ad.add (j * 3)).block, (ad.add (j * 3)).off + 1, none⟩ = some (.int .i64 x.f1) ∧ X.cell? ⟨(ad.add (j * 3)).block, (ad.add (j * 3)).off + 2, none⟩ = some (.int .i64 x.f2)) from fun X hX => by
          have h1 := (hX.block _ (lt_of_blk HA1.out)).trans HA1.out
          obtain ⟨ad2, e2, u0, u1, u2⟩ := at_T24 (Kd.C_below HA2.out.2 hX) (j : Int) (by omega) (by omega)
          obtain rfl := Option.some.inj e2
          rw [hxj, Int.toNat_natCast] at u0 u1 u2
          exact ⟨(cells_of_blk h1 1).trans rfl, u0, u1, u2⟩)
        have r3 := eq_true (show (0 : Int) ≤ (j : Int) by omega)
        have r4 := eq_true (show (j : Int) < ((keysK E).length : Int) by omega)
        have r5 := eq_true hjl
        have HM9 := Aside0.mk hm9
        have HR9 := Aside0.mk hr9
        have HBL9 := Aside0.mk hbl9
        have HG9 := Aside0.mk hg9
        have HP9 := Aside0.mk hp9
        have hrun := (hm9.move (show w9.drew.heap[b + 1]? = w9.heap[b + 1]? from rfl)).update keyLaw24 Try.underlying50 x (.int .i64 1)
        rw [mset_ones pl x HNP.out] at hrun
        clear z0 z1 hr hm hg hp hbl hb9 hr9 hm9 hbl9 hg9 hp9
        refine start_ (n := 9) (S := fun X => X.cell? ⟨b + 2, 0, none⟩ = some (.map (some (b + 1))) ∧ X.cell? ⟨b, 0, none⟩ = some (.pointer (some ⟨g, 0, none⟩)) ∧ X.cell? ⟨g, 1, none⟩ = some (.slice (some ad) (keysK E).length ck) ∧ X.cell? (ad.add (j * 3)) = some (.int .i64 x.f0) ∧ X.cell? ⟨(ad.add (j * 3)).block, (ad.add (j * 3)).off + 1, none⟩ = some (.int .i64 x.f1) ∧ X.cell? ⟨(ad.add (j * 3)).block, (ad.add (j * 3)).off + 2, none⟩ = some (.int .i64 x.f2)) (ds := [8]) #[false, false, false, false, false, false, false, false, false] (by kernel_rfl) rfl rfl (⟨(cells_of_blk (show w9.drew.heap[b + 2]? = _ from HP9.out) 0).trans rfl, (cells_of_blk (show w9.drew.heap[b]? = _ from HG9.out) 0).trans rfl, HSK.out _ (below_drew1 HBL9.out)⟩) (fun hHeld => ?_)
        refine take_ (i := 0) (N := some 27) (v := ?_) (a' := ?_) #[true, false, false, false, false, false, false, false, false] rfl rfl (by kernel_rfl) (fun _ _ _ h => h) (Or.inl ⟨by rfl, ?_⟩) hHeld ?_ ?_
        rotate_left
        · rintro w' ⟨s0_, s1_, s2_, s3_, s4_, s5_⟩
          go_simp
          with_reducible rfl
        rotate_left
        · simp only [Act.put, List.setIfInBounds_toArray, List.set_cons_zero, List.set_cons_succ, i64_w, i32_w]
          rfl
        refine take_ (i := 1) (N := some 28) (v := ?_) (a' := ?_) #[true, true, false, false, false, false, false, false, false] rfl rfl (by kernel_rfl) (fun _ _ _ h => h) (Or.inl ⟨by rfl, ?_⟩) hHeld ?_ ?_
        rotate_left
        · rintro w' ⟨s0_, s1_, s2_, s3_, s4_, s5_⟩
          go_simp
          with_reducible rfl
        rotate_left
        · simp only [Act.put, List.setIfInBounds_toArray, List.set_cons_zero, List.set_cons_succ, i64_w, i32_w]
          rfl
        refine pure_ (i := 2) (N := some 29) (v := ?_) (a' := ?_) #[true, true, true, false, false, false, false, false, false] rfl rfl (by kernel_rfl) (fun _ _ _ h => h) (Or.inl ⟨by rfl, ?_⟩) ?_ ?_
        rotate_left
        · intro w'
          go_simp
          with_reducible rfl
        rotate_left
        · simp only [Act.put, List.setIfInBounds_toArray, List.set_cons_zero, List.set_cons_succ, i64_w, i32_w]
          rfl
        refine pure_ (i := 3) (N := some 30) (v := ?_) (a' := ?_) #[true, true, true, true, false, false, false, false, false] rfl rfl (by kernel_rfl) (fun _ _ _ h => h) (Or.inl ⟨by rfl, ?_⟩) ?_ ?_
        rotate_left
        · intro w'
          go_simp
          with_reducible rfl
        rotate_left
        · simp only [Act.put, List.setIfInBounds_toArray, List.set_cons_zero, List.set_cons_succ, i64_w, i32_w]
          rfl
        refine take_ (i := 4) (N := some 31) (v := ?_) (a' := ?_) #[true, true, true, true, true, false, false, false, false] rfl rfl (by kernel_rfl) (fun _ _ _ h => h) (Or.inl ⟨by rfl, ?_⟩) hHeld ?_ ?_
        rotate_left
        · rintro w' ⟨s0_, s1_, s2_, s3_, s4_, s5_⟩
          go_simp
          with_reducible rfl
        rotate_left
        · simp only [Act.put, List.setIfInBounds_toArray, List.set_cons_zero, List.set_cons_succ, i64_w, i32_w]
          rfl
        refine pure_ (i := 5) (N := some 32) (v := ?_) (a' := ?_) #[true, true, true, true, true, true, false, false, false] rfl rfl (by kernel_rfl) (fun _ _ _ h => h) (Or.inl ⟨by rfl, ?_⟩) ?_ ?_
        rotate_left
        · intro w'
          go_simp
          with_reducible rfl
        rotate_left
        · simp only [Act.put, List.setIfInBounds_toArray, List.set_cons_zero, List.set_cons_succ, i64_w, i32_w]
          rfl
        refine pure_ (i := 6) (N := some 33) (v := ?_) (a' := ?_) #[true, true, true, true, true, true, true, false, false] rfl rfl (by kernel_rfl) (fun _ _ _ h => h) (Or.inl ⟨by rfl, ?_⟩) ?_ ?_
        rotate_left
        · intro w'
          go_simp
          with_reducible rfl
        rotate_left
        · simp only [Act.put, List.setIfInBounds_toArray, List.set_cons_zero, List.set_cons_succ, i64_w, i32_w]
          rfl
        refine take_ (i := 7) (N := some 34) (v := ?_) (a' := ?_) #[true, true, true, true, true, true, true, true, false] rfl rfl (by kernel_rfl) (fun _ _ _ h => h) (Or.inl ⟨by rfl, ?_⟩) hHeld ?_ ?_
        rotate_left
        · rintro w' ⟨s0_, s1_, s2_, s3_, s4_, s5_⟩
          go_simp
          with_reducible rfl
        rotate_left
        · simp only [Act.put, List.setIfInBounds_toArray, List.set_cons_zero, List.set_cons_succ, i64_w, i32_w]
          rfl
        obtain ⟨W10, hrun, hm10, hg10⟩ := hrun
        have hrun' : (Instr.mapUpdate 50 (.map (some (b + 1))) (.agg #[.int .i64 x.f0, .int .i64 x.f1, .int .i64 x.f2]) (.int .i64 1)).run Try.prog w9.drew = .ok () W10 := hrun
        refine last_ (i := 8) (N := none) #[true, true, true, true, true, true, true, true, true] rfl rfl (by kernel_rfl) (by decide) (fun K hK => ?_)
        refine skip_ (w1 := W10) (by rfl) rfl ?_ ?_
        · go_simp
        clear hrun hrun' hHeld
        refine hK.out _ _ (done_ (by kernel_rfl) ?_)
        clear hK K
        have hsz : w9.heap.size ≤ W10.heap.size := hg10.size
        have hbs : b + 3 ≤ w9.heap.size := by have h1 := lt_of_blk HP9.out; omega
        have e10 : ∀ q, q < w9.heap.size → q ≠ b + 1 → W10.heap[q]? = w9.heap[q]? := fun q h1 h2 => hg10.block q h1 (fun h => h2 (Option.some.inj h))
        have hbl10 : Below w2.heap.size w2 W10 := (HBL9.out.trans (⟨rfl, rfl, rfl, Nat.le_refl _, fun _ _ => rfl⟩ : Below w2.heap.size w9 w9.drew)).grown hg10 (by show w2.heap.size ≤ w9.heap.size; omega) (fun q h => by have := Option.some.inj h; omega)
        have hr10 : Kd.R k24 24 W10 (b + 3) (fun _ => True) (.slice A6 pl.length c6) pl := Kd.R_mono (Kd.R_step (Kd.R_bound HR9.out) (fun q hq hlt => e10 q hlt (by have := hq.2.1; omega))) (fun _ _ => trivial)
        have hg10' := (e10 b (by omega) (by omega)).trans HG9.out
        have hp10 := (e10 (b + 2) (by omega) (by omega)).trans HP9.out
        obtain ⟨y1, y2, y3, y4⟩ := HSK.out W10 hbl10
        have y0 : W10.cell? ⟨b, 0, none⟩ = some (.pointer (some ⟨g, 0, none⟩)) := (cells_of_blk hg10' 0).trans rfl
        have HM10 := Aside0.mk hm10
        have HR10 := Aside0.mk hr10
        have HBL10 := Aside0.mk hbl10
        have HG10 := Aside0.mk hg10'
        have HP10 := Aside0.mk hp10
        have hkl := keysK_len E
        have hel := HE.out
        have hsz10 : b + 3 ≤ W10.heap.size := by omega
        clear hm10 hr10 hbl10 hg10 hg10' hp10 e10 hsz hbs
        go_wp2_with (first | ((with_reducible refine gate_builtin (b := .append) (xs := #[.tmp 35, .tmp 43]) rfl ?_); at_builtin; refine stop_ ?_))
        refine ⟨?_⟩
        refine Kd.R_append k24 (w0 := W10) (b + 3) rfl (.tmp 35) (.tmp 43) 27 24 (.agg #[.int .i64 0, .int .i64 0, .int .i64 0]) 24 rfl Try.underlying27 info24_ rfl (by decide) (by omega) (.slice A6 pl.length c6) pl x (rowK x) (fun _ => True) (fun _ => False) rfl rfl (k24_mkM _ _ _ x) (fun _ h => h.elim) (fun _ _ => trivial) HR10.out (Below.refl _ _) hsz10 (by omega) ?_
        intro v11 w11 ho11 hb11 hg11 hat11
        obtain ⟨A11, c11, hv⟩ := Kd.R_slice ho11
        subst hv
        have hne : ∀ q, q < b + 3 → some q ≠ (Value.slice A6 pl.length c6).ownBlock := fun q hq h => by
          have := own_base (own_of_R24 HR10.out) q h.symm
          omega
        have HFIN := Aside0.mk (show topoR E = topoN E k1 (pl ++ [x]) ∧ Kd.R k24 24 w11 (b + 3) (fun _ => True) (.slice A11 (pl ++ [x]).length c11) (pl ++ [x]) ∧ MapIs encK w11 (b + 1) (ones (pl ++ [x])) ∧ w11.heap[b]? = some (.cells #[.pointer (some ⟨g, 0, none⟩)] 45 (0, 0)) ∧ w11.heap[b + 2]? = some (.cells #[.map (some (b + 1))] 50 (0, 0)) ∧ Below w2.heap.size w2 w11 from
          ⟨HF.out, ho11, HM10.out.move (hg11.block _ HM10.out.lt (hne _ (by omega))), (hg11.block _ (lt_of_blk HG10.out) (hne _ (by omega))).trans HG10.out, (hg11.block _ (lt_of_blk HP10.out) (hne _ (by omega))).trans HP10.out,
            HBL10.out.grown hg11 (by omega) (fun q h => by have := own_base (own_of_R24 HR10.out) q h; omega)⟩)
        clear ho11 hb11 hg11 hat11 hne y0 y1 y2 y3 y4
        go_wp2
        go_roundg k1
        case measure => omega
        case rel => exact ⟨pl ++ [x], A11, c11, by rw [List.length_append]; rfl, by rw [List.length_append, List.length_singleton]; omega, HFIN⟩
end
def depgraph_TopologicalOrder.f (l0 : List S44) : Option ((List S24) × Int) := some (topoOut (topoR (edgesP false (l0.take 400))), topoErr (topoR (edgesP false (l0.take 400))))
theorem depgraph_TopologicalOrder.calls (A0 : Option Addr) (c0 : Nat) (l0 : List (S44)) (r1 : List (S24)) (r2 : Int) (w : World) (hr0 : Kd.C k44 w A0 l0.length l0) (hc0 : l0.length ≤ c0) (h : depgraph_TopologicalOrder.f l0 = some (r1, r2)) :
    Calls Try.prog 13 #[.slice A0 l0.length c0] w fun e w' => ∃ v0_ : Value, e = .returned (.tuple #[v0_, .int .i64 r2]) ∧ Kd.R k24 24 w' w.heap.size (fun _ => True) v0_ r1 ∧ Below w.heap.size w w' := by
  obtain ⟨rfl, rfl⟩ := Prod.mk.inj (Option.some.inj h)
  exact topo_calls A0 c0 l0 w hr0 hc0

-- NOT PRINTED: function 31 (api_QKey_31)

end Go.Proofs.Ytofonbfpjfabbaa.QDepgraphReduction
