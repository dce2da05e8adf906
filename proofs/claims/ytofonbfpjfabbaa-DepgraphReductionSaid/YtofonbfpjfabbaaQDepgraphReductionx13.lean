-- Written by gen.py (this repo's wip/), which runs the kit's print.py with more arms. Lean checks it.
import Derived.Test.YtofonbfpjfabbaaQDepgraphReductionx0
import Derived.Test.YtofonbfpjfabbaaQDepgraphReductionx3
import Derived.Test.YtofonbfpjfabbaaQDepgraphReductionx5
import Derived.Test.YtofonbfpjfabbaaQDepgraphReductionx11
import Derived.Test.YtofonbfpjfabbaaQDepgraphReductionx12
namespace Go.Proofs.Ytofonbfpjfabbaa.QDepgraphReduction
open Go.RowKit Go.Proofs.YtofonbfpjfabbaaW.PrintWords Go.Proofs.YtofonbfpjfabbaaW.PrintLast Go.Proofs.YtofonbfpjfabbaaW.PrintMore
attribute [local go_sem] max2_int min2_int max_two min_two max_three min_three max_four min_four   -- for this text's walks alone
set_option linter.unusedVariables false
set_option linter.unusedSimpArgs false

section
open Go.Lib Go.Proofs.Ytofonbfpjfabbaa.Hand Go.Proofs.Ytofonbfpjfabbaa.Aid
instance : DecidableEq S44 := fun a b => if h : a.f0 = b.f0 ∧ a.f1 = b.f1 then isTrue (by
  obtain ⟨x, y⟩ := a
  obtain ⟨u, v⟩ := b
  obtain ⟨rfl, rfl⟩ := h
  rfl) else isFalse (fun e => h (by rw [e]; exact ⟨rfl, rfl⟩))
theorem rd44_at (xs : List S44) (i : Nat) (h : i < xs.length) : rd_T44 xs (i : Int) = xs[i] := by
  unfold rd_T44
  rw [Int.toNat_natCast, List.getD_eq_getElem?_getD, List.getElem?_eq_getElem h]
  rfl
theorem dropH {α : Type} {xs t : List α} {x : α} {i : Nat} (h : xs.drop i = x :: t) : i < xs.length ∧ xs.drop (i + 1) = t ∧ (∀ d, xs.getD ((i : Int)).toNat d = x) := by
  have hl : i < xs.length := by
    rcases Nat.lt_or_ge i xs.length with h1 | h1
    · exact h1
    · rw [List.drop_eq_nil_of_le h1] at h; cases h
  rw [List.drop_eq_getElem_cons hl] at h
  injection h with h1 h2
  refine ⟨hl, h2, fun d => ?_⟩
  rw [Int.toNat_natCast, List.getD_eq_getElem?_getD, List.getElem?_eq_getElem hl]
  exact h1
theorem idx43_ev (xs : List S24) (x : S24) (hx : xs.length < 1000000) : ∀ (t : List S24) (i : Nat), xs.drop i = t → Ev (fun k => (slices_Index.l0 k xs (xs.length : Int) (i : Int) x.f0 x.f1 x.f2).bind fun t => some (decide (t ≥ 0))) (decide (x ∈ t))
  | [], i, h => by
    have : xs.length ≤ i := by simpa using h
    refine Ev.some' (fun k => ?_)
    simp only [slices_Index.l0]
    rw [if_neg (by omega)]
    rfl
  | y :: t, i, h => by
    obtain ⟨h1, h2, h3⟩ := dropH h
    have hy : rd_T24 xs (i : Int) = y := h3 _
    by_cases c : x = y
    · refine Ev.some' (fun k => ?_)
      simp only [slices_Index.l0]
      rw [if_pos (by omega), if_pos (by omega), if_pos (by omega), hy, if_pos (by rw [c]; simp)]
      rw [c, decide_eq_true (List.mem_cons_self)]
      simp
    · have hd : decide (x ∈ y :: t) = decide (x ∈ t) := by
        rw [Bool.eq_iff_iff, decide_eq_true_iff, decide_eq_true_iff, List.mem_cons]
        exact ⟨fun h => h.resolve_left c, .inr⟩
      rw [hd]
      refine Ev.stepK (idx43_ev xs x hx t (i + 1) h2) (fun k => ?_)
      simp only [slices_Index.l0]
      rw [if_pos (by omega), if_pos (by omega), if_pos (by omega), hy, if_neg (fun hh => c (by
        simp only [Bool.and_eq_true, beq_iff_eq] at hh
        exact S24.ext' hh.1 hh.2.1 hh.2.2)), wrap_id (by omega) (by omega)]
      rfl
theorem cont33 (xs : List S24) (x : S24) (hx : xs.length < 1000000) : ∃ k, api_QKey_33.f k xs x.f0 x.f1 x.f2 = some (decide (x ∈ xs)) :=
  Ev.rounds (Ev.same (idx43_ev xs x hx xs 0 rfl) (fun k => rfl))
theorem eqE_iff (x y : S44) : (((x.f0.f0 == y.f0.f0) && ((x.f0.f1 == y.f0.f1) && (x.f0.f2 == y.f0.f2))) && ((x.f1.f0 == y.f1.f0) && ((x.f1.f1 == y.f1.f1) && (x.f1.f2 == y.f1.f2)))) = true ↔ x = y := by
  simp only [Bool.and_eq_true, beq_iff_eq]
  constructor
  · rintro ⟨⟨h1, h2, h3⟩, h4, h5, h6⟩
    obtain ⟨⟨a1, a2, a3⟩, a4, a5, a6⟩ := x
    obtain ⟨⟨b1, b2, b3⟩, b4, b5, b6⟩ := y
    simp only at h1 h2 h3 h4 h5 h6
    subst h1 h2 h3 h4 h5 h6
    rfl
  · rintro rfl
    exact ⟨⟨rfl, rfl, rfl⟩, rfl, rfl, rfl⟩
theorem idx44_ev (xs : List S44) (x : S44) (hx : xs.length < 1000000) : ∀ (t : List S44) (i : Nat), xs.drop i = t → Ev (fun k => (api_QEdge_44.l0 k xs (xs.length : Int) (i : Int) x.f0.f0 x.f0.f1 x.f0.f2 x.f1.f0 x.f1.f1 x.f1.f2).bind fun t => some (decide (t ≥ 0))) (decide (x ∈ t))
  | [], i, h => by
    have : xs.length ≤ i := by simpa using h
    refine Ev.some' (fun k => ?_)
    simp only [api_QEdge_44.l0]
    rw [if_neg (by omega)]
    rfl
  | y :: t, i, h => by
    obtain ⟨h1, h2, h3⟩ := dropH h
    have hy : rd_T44 xs (i : Int) = y := h3 _
    by_cases c : x = y
    · refine Ev.some' (fun k => ?_)
      simp only [api_QEdge_44.l0]
      rw [if_pos (by omega), if_pos (by omega), if_pos (by omega), hy, if_pos ((eqE_iff x y).2 c)]
      rw [c, decide_eq_true (List.mem_cons_self)]
      simp
    · have hd : decide (x ∈ y :: t) = decide (x ∈ t) := by
        rw [Bool.eq_iff_iff, decide_eq_true_iff, decide_eq_true_iff, List.mem_cons]
        exact ⟨fun h => h.resolve_left c, .inr⟩
      rw [hd]
      refine Ev.stepK (idx44_ev xs x hx t (i + 1) h2) (fun k => ?_)
      simp only [api_QEdge_44.l0]
      rw [if_pos (by omega), if_pos (by omega), if_pos (by omega), hy, if_neg (fun hh => c ((eqE_iff x y).1 hh)), wrap_id (by omega) (by omega)]
      rfl
theorem cont34 (xs : List S44) (x : S44) (hx : xs.length < 1000000) : ∃ k, api_QEdge_34.f k xs x.f0.f0 x.f0.f1 x.f0.f2 x.f1.f0 x.f1.f1 x.f1.f2 = some (decide (x ∈ xs)) :=
  Ev.rounds (Ev.same (idx44_ev xs x hx xs 0 rfl) (fun k => rfl))
/-- What lies below each key of ks. -/
def rowF (E : List (S24 × S24)) (ks : List S24) (k : S24) : List S24 := if k ∈ ks then reachR E k else []
def BelM (E : List (S24 × S24)) (ks : List S24) (mp : Nat) (w : World) : Prop :=
  ∃ m, MapIs encK w mp m ∧ ∀ k, ∃ A c, (mget m k).getD (.slice none 0 0) = .slice A (rowF E ks k).length c ∧ (rowF E ks k).length ≤ c ∧ Kd.C k24 w A (rowF E ks k).length (rowF E ks k)
theorem BelM.below {E : List (S24 × S24)} {ks : List S24} {mp : Nat} {w w1 : World} (h : BelM E ks mp w) (hb : Below w.heap.size w w1) : BelM E ks mp w1 := by
  obtain ⟨m, h1, h2⟩ := h
  refine ⟨m, h1.below hb h1.lt, fun k => ?_⟩
  obtain ⟨A, c, e, hc, hr⟩ := h2 k
  exact ⟨A, c, e, hc, Kd.C_below hr hb⟩
theorem rowF_len (E : List (S24 × S24)) (ks : List S24) (k : S24) (hE : E.length ≤ 400) : (rowF E ks k).length ≤ 400 := by
  unfold rowF
  split
  · unfold reachR
    exact Nat.le_trans (Nat.le_trans (sortK_len ltK _) (fnd_len (fixK_fnd E k))) hE
  · simp
set_option maxRecDepth 100000 in
set_option maxHeartbeats 16000000 in
theorem clo32_calls (bb eb mp : Nat) (E : List (S24 × S24)) (ks : List S24) (k : S24) (x : S44) (w : World) (hE : E.length ≤ 400) (hb : w.cell? ⟨bb, 0, none⟩ = some (.map (some mp))) (he : w.heap[eb]? = some (.cells #[.int .i64 x.f0.f0, .int .i64 x.f0.f1, .int .i64 x.f0.f2, .int .i64 x.f1.f0, .int .i64 x.f1.f1, .int .i64 x.f1.f2] 44 (0, 0))) (hm : BelM E ks mp w) :
    Calls Try.prog 32 #[encK k, .pointer (some ⟨bb, 0, none⟩), .pointer (some ⟨eb, 0, none⟩)] w fun e w' => e = .returned (.bool (decide (x.f1 ∈ rowF E ks k))) ∧ Below w.heap.size w w' := by
  unfold encK
  obtain ⟨b, hbz⟩ : ∃ b, w.heap.size = b := ⟨_, rfl⟩
  obtain ⟨W1, hW1⟩ : ∃ W1, w.alloc (.cells #[.int .i64 k.f0, .int .i64 k.f1, .int .i64 k.f2] 24) = W1 := ⟨_, rfl⟩
  have hb1 : Below w.heap.size w W1 := by rw [← hW1]; exact below_alloc (Below.refl _ _) _
  have hk1 : W1.heap[b]? = some (.cells #[.int .i64 k.f0, .int .i64 k.f1, .int .i64 k.f2] 24 (0, 0)) := by rw [← hbz, ← hW1]; exact hb_new _ _
  have hp1 := (hb1.cell (World.block_lt_of_cell? _ _ hb)).trans hb
  have he1 := (hb1.block _ (lt_of_blk he)).trans he
  obtain ⟨m, hm1, hm2⟩ := hm.below hb1
  obtain ⟨A9, c9, e9, hc9, hr9⟩ := hm2 k
  have hlen := rowF_len E ks k hE
  obtain ⟨row, hrow⟩ : ∃ row, rowF E ks k = row := ⟨_, rfl⟩
  rw [hrow] at e9 hc9 hr9 hlen ⊢
  obtain ⟨kk, hkk⟩ := cont33 row x.f1 (by omega)
  have HS := Aside0.mk (show ∀ X : World, X.heap = W1.heap → (X.cell? ⟨bb, 0, none⟩ = some (.map (some mp)) ∧ X.cell? ⟨b, 0, none⟩ = some (.int .i64 k.f0) ∧ X.cell? ⟨b, 1, none⟩ = some (.int .i64 k.f1) ∧ X.cell? ⟨b, 2, none⟩ = some (.int .i64 k.f2) ∧ X.cell? ⟨eb, 3, none⟩ = some (.int .i64 x.f1.f0) ∧ X.cell? ⟨eb, 4, none⟩ = some (.int .i64 x.f1.f1) ∧ X.cell? ⟨eb, 5, none⟩ = some (.int .i64 x.f1.f2) ∧ (Instr.lookup 51 (.map (some mp)) (.agg #[.int .i64 k.f0, .int .i64 k.f1, .int .i64 k.f2]) false).run Try.prog X = .ok (.slice A9 row.length c9) X) from fun X hX => by
    have hk := (show X.heap[b]? = W1.heap[b]? by rw [hX]).trans hk1
    have he2 := (show X.heap[eb]? = W1.heap[eb]? by rw [hX]).trans he1
    have hc : ∀ p, X.cell? p = W1.cell? p := fun p => by unfold World.cell?; rw [hX]
    refine ⟨(hc _).trans hp1, (cells_of_blk hk 0).trans rfl, (cells_of_blk hk 1).trans rfl, (cells_of_blk hk 2).trans rfl, (cells_of_blk he2 3).trans rfl, (cells_of_blk he2 4).trans rfl, (cells_of_blk he2 5).trans rfl, ?_⟩
    have h := (hm1.move (show X.heap[mp]? = W1.heap[mp]? by rw [hX])).lookup keyLaw24 Try.underlying51 (zero27 X) k false
    rw [e9] at h
    exact h)
  have HB1 := Aside0.mk hb1
  have HR9 := Aside0.mk hr9
  have HC9 := Aside0.mk hc9
  have HKK := Aside0.mk hkk
  clear hb he hm hb1 hk1 hp1 he1 hm1 hm2 e9 hc9 hr9 hlen hrow hkk
  go_enter Try.func32, Try.ntmps32
  go_upto_region 1 with (fail)
  try rw [hW1]
  try rw [hbz]
  clear hW1
  refine start_ (n := 7) (S := fun X => X.cell? ⟨bb, 0, none⟩ = some (.map (some mp)) ∧ X.cell? ⟨b, 0, none⟩ = some (.int .i64 k.f0) ∧ X.cell? ⟨b, 1, none⟩ = some (.int .i64 k.f1) ∧ X.cell? ⟨b, 2, none⟩ = some (.int .i64 k.f2) ∧ X.cell? ⟨eb, 3, none⟩ = some (.int .i64 x.f1.f0) ∧ X.cell? ⟨eb, 4, none⟩ = some (.int .i64 x.f1.f1) ∧ X.cell? ⟨eb, 5, none⟩ = some (.int .i64 x.f1.f2) ∧ (Instr.lookup 51 (.map (some mp)) (.agg #[.int .i64 k.f0, .int .i64 k.f1, .int .i64 k.f2]) false).run Try.prog X = .ok (.slice A9 row.length c9) X) (ds := [5]) #[false, false, false, false, false, false, false] (by kernel_rfl) rfl rfl (HS.out _ rfl) (fun hHeld => ?_)
  refine take_ (i := 0) (N := some 5) (v := ?_) (a' := ?_) #[true, false, false, false, false, false, false] rfl rfl (by kernel_rfl) (fun _ _ _ h => h) (Or.inl ⟨by rfl, ?_⟩) hHeld ?_ ?_
  rotate_left
  · rintro w' ⟨s0_, s1_, s2_, s3_, s4_, s5_, s6_, s7_⟩
    go_simp
    with_reducible rfl
  rotate_left
  · simp only [Act.put, List.setIfInBounds_toArray, List.set_cons_zero, List.set_cons_succ, i64_w, i32_w]
    rfl
  refine take_ (i := 1) (N := some 6) (v := ?_) (a' := ?_) #[true, true, false, false, false, false, false] rfl rfl (by kernel_rfl) (fun _ _ _ h => h) (Or.inl ⟨by rfl, ?_⟩) hHeld ?_ ?_
  rotate_left
  · rintro w' ⟨s0_, s1_, s2_, s3_, s4_, s5_, s6_, s7_⟩
    go_simp
    with_reducible rfl
  rotate_left
  · simp only [Act.put, List.setIfInBounds_toArray, List.set_cons_zero, List.set_cons_succ, i64_w, i32_w]
    rfl
  refine take_ (i := 2) (N := some 7) (v := ?_) (a' := ?_) #[true, true, true, false, false, false, false] rfl rfl (by kernel_rfl) (fun _ _ _ h => h) (Or.inl ⟨by rfl, ?_⟩) hHeld ?_ ?_
  rotate_left
  · rintro w' ⟨s0_, s1_, s2_, s3_, s4_, s5_, s6_, s7_⟩
    go_simp
    with_reducible rfl
  rotate_left
  · simp only [Act.put, List.setIfInBounds_toArray, List.set_cons_zero, List.set_cons_succ, i64_w, i32_w]
    rfl
  refine pure_ (i := 3) (N := some 8) (v := ?_) (a' := ?_) #[true, true, true, true, false, false, false] rfl rfl (by kernel_rfl) (fun _ _ _ h => h) (Or.inl ⟨by rfl, ?_⟩) ?_ ?_
  rotate_left
  · intro w'
    go_simp
    with_reducible rfl
  rotate_left
  · simp only [Act.put, List.setIfInBounds_toArray, List.set_cons_zero, List.set_cons_succ, i64_w, i32_w]
    rfl
  refine take_ (i := 4) (N := some 9) (v := ?_) (a' := ?_) #[true, true, true, true, true, false, false] rfl rfl (by kernel_rfl) (fun _ _ _ h => h) (Or.inl ⟨by rfl, ?_⟩) hHeld ?_ ?_
  rotate_left
  · rintro w' ⟨s0_, s1_, s2_, s3_, s4_, s5_, s6_, s7_⟩
    go_simp
    with_reducible rfl
  rotate_left
  · simp only [Act.put, List.setIfInBounds_toArray, List.set_cons_zero, List.set_cons_succ, i64_w, i32_w]
    rfl
  refine last_ (i := 5) (N := some 10) #[true, true, true, true, true, true, false] rfl rfl (by kernel_rfl) (by decide) (fun K hK => ?_)
  refine goes_ Try.func33 (by kernel_rfl) rfl #[.slice A9 row.length c9, .agg #[.int .i64 x.f1.f0, .int .i64 x.f1.f1, .int .i64 x.f1.f2]] (by rfl) rfl rfl (by (try simp only [List.map_toArray, List.map_cons, List.map_nil]); first | done | rfl) ?_
  refine (api_QKey_33.calls kk A9 c9 row x.f1.f0 x.f1.f1 x.f1.f2 _ W1.drew (Kd.C_drew HR9.out) HC9.out HKK.out).mono ?_
  rintro e w3 ⟨rfl, hb3⟩
  refine ⟨_, rfl, ?_⟩
  refine hK.out _ _ ?_
  clear hK K hHeld
  refine norm_ (a' := ?_) ?_ ?_
  rotate_left
  · show Act.put _ (some 10) _ = _
    simp only [Act.put, List.setIfInBounds_toArray, List.set_cons_zero, List.set_cons_succ, i64_w, i32_w]
    rfl
  refine pure_ (i := 6) (N := some 4) (v := ?_) (a' := ?_) #[true, true, true, true, true, true, true] rfl rfl (by kernel_rfl) (fun _ _ _ h => h) (Or.inl ⟨by rfl, ?_⟩) ?_ ?_
  rotate_left
  · intro w'
    go_simp
    with_reducible rfl
  rotate_left
  · simp only [Act.put, List.setIfInBounds_toArray, List.set_cons_zero, List.set_cons_succ, i64_w, i32_w]
    rfl
  refine done_ (by kernel_rfl) ?_
  go_wp2
  go_ret
  have hs1 := HB1.out.size
  exact ⟨rfl, HB1.out.trans (((below_drew1 (Below.refl _ W1)).trans hb3).mono hs1)⟩
set_option maxRecDepth 100000 in
set_option maxHeartbeats 16000000 in
theorem idx32_calls (A : Option Addr) (c : Nat) (xs : List S24) (p : S24 → Bool) (gb pb : Nat) (w : World) (hr : Kd.C k24 w A xs.length xs) (hl : xs.length < 1000000)
    (hf : ∀ X x, Below w.heap.size w X → Calls Try.prog 32 #[encK x, .pointer (some ⟨gb, 0, none⟩), .pointer (some ⟨pb, 0, none⟩)] X fun e X' => e = .returned (.bool (p x)) ∧ Below X.heap.size X X') :
    Calls Try.prog 25 #[.slice A xs.length c, .func (.func 32) #[] #[.pointer (some ⟨gb, 0, none⟩), .pointer (some ⟨pb, 0, none⟩)]] w fun e w' => e = .returned (.int .i64 (idxP p xs)) ∧ Below w.heap.size w w' := by
  have HR := Aside0.mk hr
  have HL := Aside0.mk hl
  have HF := Aside0.mk hf
  clear hr hl hf
  go_enter Try.func25, Try.ntmps25
  go_wp2
  go_loopg [8] xs.length (fun kq v8 W => ∃ i : Nat, v8 = .int .i64 (i : Int) ∧ kq + i = xs.length ∧ Aside0 (Below w.heap.size w W ∧ idxP p xs = idxFrom p xs i))
  case atStart => exact ⟨0, rfl, by omega, ⟨Below.refl _ _, rfl⟩⟩
  case round =>
    obtain ⟨i, rfl, hi, hA⟩ := hrel
    cases gk with
    | zero =>
      have HIL := Aside0.mk (show i = xs.length by omega)
      have c0' : decide ((i : Int) < (xs.length : Int)) = false := decide_eq_false (by omega)
      have c0'' : decide (i < xs.length) = false := decide_eq_false (by omega)
      clear hi
      go_wp2
      go_ret
      exact ⟨by rw [hA.out.2, HIL.out, idxFrom_end]; rfl, hA.out.1⟩
    | succ k1 =>
      have c0' : decide ((i : Int) < (xs.length : Int)) = true := decide_eq_true (by omega)
      have hil : i < xs.length := by omega
      have c0'' : decide (i < xs.length) = true := decide_eq_true hil
      obtain ⟨x, hx⟩ : ∃ x, rd_T24 xs (i : Int) = x := ⟨_, rfl⟩
      have hxi : xs[i] = x := by rw [← hx, rd24_at xs i hil]
      obtain ⟨ad, rfl, x0, x1, x2⟩ := at_T24 (Kd.C_below HR.out hA.out.1) (i : Int) (by omega) (by omega)
      rw [hx, Int.toNat_natCast] at x0 x1 x2
      have r0 := eq_true (show (0 : Int) ≤ (i : Int) by omega)
      have r1 := eq_true (show (i : Int) < (xs.length : Int) by omega)
      have r2 := eq_true hil
      have HSTEP := Aside0.mk (show idxFrom p xs i = if p x = true then (i : Int) else idxFrom p xs (i + 1) by rw [idxFrom_step p xs i hil, hxi])
      have HC := Aside0.mk (HF.out wr x hA.out.1)
      unfold encK at HC
      obtain ⟨b, hb⟩ : ∃ b, p x = b := ⟨_, rfl⟩
      rw [hb] at HC HSTEP
      clear hil hx hxi hb
      cases b with
      | true =>
        go_wp2_with (first | (go_at_call 32; refine HC.out.mono ?_; rintro e w9 ⟨rfl, hb9⟩; have HB9 := Aside0.mk hb9; clear hb9))
        go_ret
        exact ⟨by rw [hA.out.2, HSTEP.out]; rfl, hA.out.1.trans (HB9.out.mono hA.out.1.size)⟩
      | false =>
        go_wp2_with (first | (go_at_call 32; refine HC.out.mono ?_; rintro e w9 ⟨rfl, hb9⟩; have HB9 := Aside0.mk hb9; clear hb9))
        go_roundg k1
        case measure => omega
        case rel => exact ⟨i + 1, by first | rfl | (rw [wrap_id (by omega) (by have := HL.out; omega)]; rfl), by omega, ⟨hA.out.1.trans (HB9.out.mono hA.out.1.size), by rw [hA.out.2, HSTEP.out]; rfl⟩⟩
set_option maxRecDepth 100000 in
set_option maxHeartbeats 16000000 in
theorem contains32_calls (A : Option Addr) (c : Nat) (xs : List S24) (p : S24 → Bool) (gb pb : Nat) (w : World) (hr : Kd.C k24 w A xs.length xs) (hl : xs.length < 1000000)
    (hf : ∀ X x, Below w.heap.size w X → Calls Try.prog 32 #[encK x, .pointer (some ⟨gb, 0, none⟩), .pointer (some ⟨pb, 0, none⟩)] X fun e X' => e = .returned (.bool (p x)) ∧ Below X.heap.size X X') :
    Calls Try.prog 31 #[.slice A xs.length c, .func (.func 32) #[] #[.pointer (some ⟨gb, 0, none⟩), .pointer (some ⟨pb, 0, none⟩)]] w fun e w' => e = .returned (.bool (xs.any p)) ∧ Below w.heap.size w w' := by
  have HC := Aside0.mk (idx32_calls A c xs p gb pb w hr hl hf)
  have HA := Aside0.mk (show decide (idxP p xs ≥ 0) = xs.any p from idxL_neg p xs 0 (Int.le_refl 0))
  clear hr hl hf
  go_enter Try.func31, Try.ntmps31
  go_wp2_with (first | (go_at_call 25; refine HC.out.mono ?_; rintro e w9 ⟨rfl, hb9⟩; have HB9 := Aside0.mk hb9; clear hb9))
  go_ret
  refine ⟨?_, HB9.out⟩
  rw [← HA.out]
  rfl
/-- Is an edge implied by longer ways. -/
def impB (E : List (S24 × S24)) (x : S44) : Bool := (nextK E x.f0).any (fun k => decide (x.f1 ∈ rowF E (keysK E) k))
def redStep (E : List (S24 × S24)) (res : List S44) (x : S44) : List S44 := if impB E x = false ∧ x ∉ res then res ++ [x] else res
def redN (E : List (S24 × S24)) (l : List S44) (i : Nat) : List S44 := (l.take i).foldl (redStep E) []
theorem redN_snoc (E : List (S24 × S24)) (l : List S44) (i : Nat) (h : i < l.length) : redN E l (i + 1) = redStep E (redN E l i) l[i] := by
  unfold redN
  rw [List.take_succ_eq_append_getElem h, List.foldl_append]
  rfl
theorem redStep_len (E : List (S24 × S24)) (res : List S44) (x : S44) : (redStep E res x).length ≤ res.length + 1 := by
  unfold redStep
  split
  · rw [List.length_append]; exact Nat.le_refl _
  · omega
theorem redN_len (E : List (S24 × S24)) (l : List S44) : ∀ i, (redN E l i).length ≤ i
  | 0 => Nat.le_refl _
  | i + 1 => by
    rcases Nat.lt_or_ge i l.length with h | h
    · rw [redN_snoc E l i h]
      exact Nat.le_trans (redStep_len _ _ _) (by have := redN_len E l i; omega)
    · have h1 : redN E l (i + 1) = redN E l i := by unfold redN; rw [List.take_of_length_le (by omega), List.take_of_length_le h]
      rw [h1]
      have := redN_len E l i
      omega
def redOut (l : List S44) : List S44 := if (topoR (edgesP false l)).isSome then redN (edgesP false l) l l.length else []
/-- The rows below the first keys, in a map of the call's own. -/
def BelI (E : List (S24 × S24)) (ks : List S24) (b : Nat) (w : World) : Prop :=
  ∃ m, MapIs encK w b m ∧ ∀ k, Kd.R k24 24 w (b + 2) (fun _ => True) ((mget m k).getD (.slice none 0 0)) (rowF E ks k)
theorem BelI.read {E : List (S24 × S24)} {ks : List S24} {b : Nat} {w : World} (h : BelI E ks b w) : BelM E ks b w := by
  obtain ⟨m, h1, h2⟩ := h
  refine ⟨m, h1, fun k => ?_⟩
  obtain ⟨A, c, e, hc, hr⟩ := Kd.R_reads (h2 k)
  exact ⟨A, c, e, hc, hr⟩
theorem BelI.below {E : List (S24 × S24)} {ks : List S24} {b : Nat} {w w1 : World} (h : BelI E ks b w) (hb : Below w.heap.size w w1) : BelI E ks b w1 := by
  obtain ⟨m, h1, h2⟩ := h
  exact ⟨m, h1.below hb h1.lt, fun k => Kd.R_below (h2 k) hb⟩
theorem BelI.put {E : List (S24 × S24)} {ks : List S24} {b : Nat} {w w1 : World} {m : List (S24 × Value)} {x : S24} {v : Value} (h2 : ∀ k, Kd.R k24 24 w (b + 2) (fun _ => True) ((mget m k).getD (.slice none 0 0)) (rowF E ks k))
    (hv : Kd.R k24 24 w (b + 2) (fun _ => True) v (reachR E x)) (hm : MapIs encK w1 b (mset m x v)) (hg : w.grownBy w1 (some b)) : BelI E (ks ++ [x]) b w1 := by
  have hmv : ∀ u row, Kd.R k24 24 w (b + 2) (fun _ => True) u row → Kd.R k24 24 w1 (b + 2) (fun _ => True) u row := fun u row hr =>
    Kd.R_mono (Kd.R_step (Kd.R_bound hr) (fun q hq hlt => hg.block q hlt (fun e => by have h3 := Option.some.inj e; have h4 := hq.2.1; omega))) (fun _ _ => trivial)
  refine ⟨_, hm, fun k => ?_⟩
  by_cases c : x = k
  · subst c
    rw [mget_mset_same]
    have e : rowF E (ks ++ [x]) x = reachR E x := by unfold rowF; rw [if_pos (by simp)]
    rw [e]
    exact hmv _ _ hv
  · rw [mget_mset_ne m v c]
    have e : rowF E (ks ++ [x]) k = rowF E ks k := by
      unfold rowF
      by_cases d : k ∈ ks
      · rw [if_pos d, if_pos (List.mem_append.2 (.inl d))]
      · rw [if_neg d, if_neg (fun h => (List.mem_append.1 h).elim d (fun h => c (List.mem_singleton.1 h).symm))]
    rw [e]
    exact hmv _ _ (h2 k)
theorem info44_ : (Try.prog.info? 44).map (fun i => (i.zero, i.size, i.bytes)) = some (some (.agg #[.int .i64 0, .int .i64 0, .int .i64 0, .int .i64 0, .int .i64 0, .int .i64 0]), k44.sz, 48) := by kernel_rfl
attribute [local go_sem high] min_400
set_option maxRecDepth 100000 in
set_option maxHeartbeats 16000000 in
theorem reduction_calls (A0 : Option Addr) (c0 : Nat) (l0 : List S44) (w : World) (hr0 : Kd.C k44 w A0 l0.length l0) (hc0 : l0.length ≤ c0) :
    Calls Try.prog 18 #[.slice A0 l0.length c0] w fun e w' => ∃ v, e = .returned (.tuple #[v, .int .i64 (topoErr (topoR (edgesP false (l0.take 400))))]) ∧ Kd.R k44 44 w' w.heap.size (fun _ => True) v (redOut (l0.take 400)) ∧ Below w.heap.size w w' := by
  have HT := Aside0.mk (topo_calls A0 c0 l0 w hr0 hc0)
  have HR0 := Aside0.mk hr0
  have HC0 := Aside0.mk hc0
  have hE : (edgesP false (l0.take 400)).length ≤ 400 := by unfold edgesP; rw [List.length_map, List.length_take]; omega
  obtain ⟨E, hEd⟩ : ∃ E, edgesP false (l0.take 400) = E := ⟨_, rfl⟩
  have hmm := @run_makeMap Try.prog
  rw [hEd] at HT hE ⊢
  have HE := Aside0.mk hE
  have HED := Aside0.mk hEd
  clear hE hEd hr0 hc0
  cases hto : topoR E with
  | none =>
    have HF := Aside0.mk (show redOut (l0.take 400) = [] by unfold redOut; rw [HED.out, hto]; rfl)
    rw [hto] at HT
    go_enter Try.func18, Try.ntmps18
    go_wp2_with (first | (go_at_call 13; refine HT.out.mono ?_; rintro e w2 ⟨v2, rfl, hg2, hb2⟩; have HB2 := Aside0.mk hb2; clear hg2 hb2; simp only [topoErr, Option.isSome, Bool.false_eq_true, if_false]))
    go_ret2
    rw [HF.out]
    exact ⟨_, rfl, Kd.R_nil _ _ _ _ _, HB2.out⟩
  | some out =>
    have HF := Aside0.mk (show redOut (l0.take 400) = redN E (l0.take 400) (l0.take 400).length by unfold redOut; rw [HED.out, hto]; rfl)
    rw [hto] at HT
    clear hto
    go_enter Try.func18, Try.ntmps18
    go_upto_region 4 with (first | (go_at_call 13; refine HT.out.mono ?_; rintro e w2 ⟨v2, rfl, hg2, hb2⟩; have HB2 := Aside0.mk hb2; clear hg2 hb2; simp only [topoErr, Option.isSome, if_true]))
    clear HT
    have HN := Aside0.mk (newGraph_calls A0 c0 l0 false w2 (Kd.C_below HR0.out HB2.out) HC0.out)
    unfold NgPost at HN
    rw [HED.out] at HN
    go_upto_region 5 with (first | (go_at_call 21; refine HN.out.mono ?_; rintro e w3 ⟨g, mb, rfl, hg3, hb3⟩; have HG3 := Aside0.mk hg3; have HB3 := Aside0.mk hb3; clear hg3 hb3))
    clear HN
    go_upto_region 6 with (fail)
    obtain ⟨b, hb⟩ : ∃ b, w3.heap.size = b := ⟨_, rfl⟩
    simp only [hb]
    obtain ⟨W5, hW5⟩ : ∃ W5, (w3.alloc (.map #[] 0)).alloc (.cells #[.map (some b)] 51) = W5 := ⟨_, rfl⟩
    have hb5 : Below w3.heap.size w3 W5 := by rw [← hW5]; exact below_alloc (below_alloc (Below.refl _ _) _) _
    have hm5 : MapIs encK W5 b [] := by
      rw [← hb, ← hW5]
      have := (MapIs.new (enc := encK) w3).below (below_alloc (Below.refl _ (w3.alloc (.map #[] 0))) (.cells #[.map (some w3.heap.size)] 51)) (by simp)
      rwa [hb] at this ⊢
    have hp5 : W5.heap[b + 1]? = some (.cells #[.map (some b)] 51 (0, 0)) := by
      have := hb_new (w3.alloc (.map #[] 0)) (.cells #[.map (some b)] 51)
      rw [World.size_alloc, hb, hW5] at this
      exact this
    have hz5 : W5.heap.size = b + 2 := by rw [← hb, ← hW5]; simp
    rw [hW5]
    obtain ⟨Ak, ck, mm, hA1, hA2, hA3, hA4, hA5⟩ := HG3.out
    have HA1 := Aside0.mk hA1
    have HA2 := Aside0.mk (And.intro hA2 hA3)
    have h1 := (hb5.block _ (lt_of_blk hA1)).trans hA1
    have z1 : W5.cell? ⟨g, 1, none⟩ = some (.slice Ak (keysK E).length ck) := (cells_of_blk h1 1).trans rfl
    have HBW := Aside0.mk hb
    have HB5 := Aside0.mk hb5
    have HM5 := Aside0.mk hm5
    have HP5 := Aside0.mk hp5
    have HZ5 := Aside0.mk hz5
    have HND := Aside0.mk (srt_nodup ordK (keysK_srt E))
    clear hA1 hA2 hA3 hA4 hA5 hW5 hb hb5 hm5 hp5 hz5 hmm h1
    go_wp2
    clear z1
    go_loopg [30] (keysK E).length (fun kq v30 W => ∃ i : Nat, v30 = .int .i64 (i : Int) ∧ kq + i = (keysK E).length ∧ Aside0 (BelI E ((keysK E).take i) b W ∧ W.heap[b + 1]? = some (.cells #[.map (some b)] 51 (0, 0)) ∧ Below w3.heap.size w3 W))
    case atStart =>
      refine ⟨0, rfl, by omega, ⟨⟨[], HM5.out, fun k => ?_⟩, HP5.out, HB5.out⟩⟩
      have e : rowF E ((keysK E).take 0) k = [] := by unfold rowF; rw [if_neg (by simp)]
      rw [e]
      exact Kd.R_nil _ _ _ _ _
    case round =>
      obtain ⟨i, rfl, hi, hA⟩ := hrel
      cases gk with
      | zero =>
        have hie : i = (keysK E).length := by omega
        subst hie
        have c0' : decide (((keysK E).length : Int) < ((keysK E).length : Int)) = false := decide_eq_false (by omega)
        have c0'' : decide ((keysK E).length < (keysK E).length) = false := decide_eq_false (by omega)
        have HBEL := Aside0.mk (show BelM E (keysK E) b wr by have h := hA.out.1.read; rwa [List.take_length] at h)
        clear hi
        go_upto_region 12 with (fail)
        clear c0' c0''
        obtain ⟨l, hl⟩ : ∃ l, l0.take 400 = l := ⟨_, rfl⟩
        have hll : l.length = capE l0.length := by rw [← hl, List.length_take, Nat.min_comm]; rfl
        have hn4 : capE l0.length ≤ l0.length ∧ capE l0.length ≤ 400 := by unfold capE; omega
        have hq0 : (capE l0.length : Int) ≤ (c0 : Int) := by have := HC0.out; omega
        have hC : Kd.C k44 w A0 l.length l := by
          have h := HR0.out
          rw [← hl]
          refine ⟨rfl, Nat.le_trans (List.length_take_le' _ _) h.2.1, fun h0 => ?_⟩
          obtain ⟨ad, rfl, h3⟩ := h.2.2 (by rw [hl, hll] at h0; omega)
          refine ⟨ad, rfl, fun j p hp => h3 j p ?_⟩
          rw [List.getElem?_take] at hp
          split at hp
          · exact hp
          · cases hp
        obtain ⟨n, hn⟩ : ∃ n, capE l0.length = n := ⟨_, rfl⟩
        obtain ⟨W6, rfl⟩ : ∃ W6, W6 = wr := ⟨_, rfl⟩
        have HCL := Aside0.mk (Kd.C_below (Kd.C_below (Kd.C_below hC HB2.out) HB3.out) hA.out.2.2)
        rw [hl] at HF
        have HLE := Aside0.mk hl
        have HED2 := Aside0.mk (show edgesP false l = E by rw [← hl]; exact HED.out)
        have HLN := Aside0.mk (show l.length = n ∧ n ≤ 400 by omega)
        have HBK := Aside0.mk hA.out.2.1
        have HG6 := Aside0.mk (HG3.out.below hA.out.2.2)
        have HB6 := Aside0.mk hA.out.2.2
        clear hA
        go_wp2
        clear hl hll hn4 hq0 hC hn
        go_loopg [10, 46] n (fun kq v10 v46 W => ∃ (i : Nat) (A10 : Option Addr) (c10 : Nat), v10 = .slice A10 (redN E l i).length c10 ∧ v46 = .int .i64 (i : Int) ∧ kq + i = n ∧ Aside0 (Kd.R k44 44 W W6.heap.size (fun _ => True) (.slice A10 (redN E l i).length c10) (redN E l i) ∧ Below W6.heap.size W6 W))
        case atStart => exact ⟨0, none, 0, rfl, rfl, by omega, ⟨Kd.R_nil _ _ _ _ _, Below.refl _ _⟩⟩
        case round =>
          obtain ⟨i, A10, c10, rfl, rfl, hi, hA⟩ := hrel
          cases gk with
          | zero =>
            have hie : i = n := by omega
            subst hie
            have c0' : decide ((i : Int) < (i : Int)) = false := decide_eq_false (by omega)
            have c0'' : decide (i < i) = false := decide_eq_false (by omega)
            clear hi
            go_wp2
            go_ret2
            refine ⟨_, rfl, ?_, HB2.out.trans ((HB3.out.mono HB2.out.size).trans ((HB6.out.mono (Nat.le_trans HB2.out.size HB3.out.size)).trans (hA.out.2.mono (Nat.le_trans HB2.out.size (Nat.le_trans HB3.out.size HB6.out.size)))))⟩
            rw [HLE.out, HF.out, HLN.out.1]
            exact Kd.R_lower hA.out.1 (Nat.le_trans HB2.out.size (Nat.le_trans HB3.out.size HB6.out.size))
          | succ k1 =>
            have c0' : decide ((i : Int) < (n : Int)) = true := decide_eq_true (by omega)
            have c0'' : decide (i < n) = true := decide_eq_true (by omega)
            have hin : i < l.length := by have := HLN.out; omega
            obtain ⟨x, hx⟩ : ∃ x, rd_T44 l (i : Int) = x := ⟨_, rfl⟩
            have hxi : l[i] = x := by rw [← hx, rd44_at _ i hin]
            have hsn := redN_snoc E l i hin
            rw [hxi] at hsn
            have hrl := redN_len E l i
            obtain ⟨res, hres⟩ : ∃ res, redN E l i = res := ⟨_, rfl⟩
            simp only [hres] at hsn hrl hA ⊢
            obtain ⟨ad, rfl, x0, x1, x2, x3, x4, x5⟩ := at_T44 (Kd.C_below HCL.out hA.out.2) (i : Int) (by omega) (by omega)
            rw [Int.toNat_natCast, hx] at x0 x1 x2 x3 x4 x5
            have HSN := Aside0.mk hsn
            have hrl4 : res.length ≤ 400 := by have := HLN.out; omega
            have HRL := Aside0.mk hrl4
            clear hsn hin hx hxi hres hrl hrl4
            have p0 := eq_true (show (0 : Int) ≤ (i : Int) by omega)
            have p1 := eq_true (show (i : Int) < (n : Int) by omega)
            go_upto_region 15 with (fail)
            clear p0 p1 x0 x1 x2 x3 x4 x5 c0' c0''
            obtain ⟨eb, heb⟩ : ∃ eb, wr.heap.size = eb := ⟨_, rfl⟩
            obtain ⟨W7, hW7⟩ : ∃ W7, wr.alloc (.cells #[.int .i64 x.f0.f0, .int .i64 x.f0.f1, .int .i64 x.f0.f2, .int .i64 x.f1.f0, .int .i64 x.f1.f1, .int .i64 x.f1.f2] 44) = W7 := ⟨_, rfl⟩
            have hb7 : Below wr.heap.size wr W7 := by rw [← hW7]; exact below_alloc (Below.refl _ _) _
            have hk7 : W7.heap[eb]? = some (.cells #[.int .i64 x.f0.f0, .int .i64 x.f0.f1, .int .i64 x.f0.f2, .int .i64 x.f1.f0, .int .i64 x.f1.f1, .int .i64 x.f1.f2] 44 (0, 0)) := by rw [← heb, ← hW7]; exact hb_new _ _
            have hb67 : Below W6.heap.size W6 W7 := hA.out.2.trans (hb7.mono hA.out.2.size)
            have hr7 := Kd.R_below hA.out.1 hb7
            rw [hW7]
            simp only [heb]
            obtain ⟨A2, c2, m2, g1, g2, g3, g4, g5⟩ := HG6.out
            obtain ⟨A9, c9, e9, hc9, hr9⟩ := g5 x.f0
            have HS := Aside0.mk (show ∀ X : World, Below W7.heap.size W7 X → (X.cell? ⟨g, 0, none⟩ = some (.map (some mb)) ∧ X.cell? ⟨eb, 0, none⟩ = some (.int .i64 x.f0.f0) ∧ X.cell? ⟨eb, 1, none⟩ = some (.int .i64 x.f0.f1) ∧ X.cell? ⟨eb, 2, none⟩ = some (.int .i64 x.f0.f2) ∧ (Instr.lookup 51 (.map (some mb)) (.agg #[.int .i64 x.f0.f0, .int .i64 x.f0.f1, .int .i64 x.f0.f2]) false).run Try.prog X = .ok (.slice A9 (nextK E x.f0).length c9) X) from fun X hX => by
              have hX6 : Below W6.heap.size W6 X := hb67.trans (hX.mono hb67.size)
              have h1 := (hX6.block _ (lt_of_blk g1)).trans g1
              have h2 := (hX.block _ (lt_of_blk hk7)).trans hk7
              refine ⟨(cells_of_blk h1 0).trans rfl, (cells_of_blk h2 0).trans rfl, (cells_of_blk h2 1).trans rfl, (cells_of_blk h2 2).trans rfl, ?_⟩
              have h := (g4.below hX6 g4.lt).lookup keyLaw24 Try.underlying51 (zero27 X) x.f0 false
              rw [e9] at h
              exact h)
            have HC7 := Aside0.mk (contains32_calls A9 c9 (nextK E x.f0) (fun k => decide (x.f1 ∈ rowF E (keysK E) k)) (b + 1) eb W7.drew (Kd.C_drew (Kd.C_below hr9 hb67)) (by have := nextK_len E x.f0; have := HE.out; omega) (fun X k hX => by
              have hX7 : Below W7.heap.size W7 X := (below_drew1 (Below.refl _ W7)).trans hX
              have hX6 : Below W6.heap.size W6 X := hb67.trans (hX7.mono hb67.size)
              exact clo32_calls (b + 1) eb b E (keysK E) k x X HE.out ((cells_of_blk ((hX6.block _ (lt_of_blk HBK.out)).trans HBK.out) 0).trans rfl) ((hX7.block _ (lt_of_blk hk7)).trans hk7) (HBEL.out.below hX6)))
            have HK7 := Aside0.mk hk7
            have HB67 := Aside0.mk hb67
            have HR7 := Aside0.mk hr7
            clear hW7 heb hb7 hk7 hb67 hr7 g1 g2 g3 g4 g5 e9 hc9 hr9
            refine start_ (n := 10) (S := fun X => X.cell? ⟨g, 0, none⟩ = some (.map (some mb)) ∧ X.cell? ⟨eb, 0, none⟩ = some (.int .i64 x.f0.f0) ∧ X.cell? ⟨eb, 1, none⟩ = some (.int .i64 x.f0.f1) ∧ X.cell? ⟨eb, 2, none⟩ = some (.int .i64 x.f0.f2) ∧ (Instr.lookup 51 (.map (some mb)) (.agg #[.int .i64 x.f0.f0, .int .i64 x.f0.f1, .int .i64 x.f0.f2]) false).run Try.prog X = .ok (.slice A9 (nextK E x.f0).length c9) X) (ds := [8]) #[false, false, false, false, false, false, false, false, false, false] (by kernel_rfl) rfl rfl (HS.out _ (below_drew1 (Below.refl _ _))) (fun hHeld => ?_)
            refine pure_ (i := 0) (N := some 50) (v := ?_) (a' := ?_) #[true, false, false, false, false, false, false, false, false, false] rfl rfl (by kernel_rfl) (fun _ _ _ h => h) (Or.inl ⟨by rfl, ?_⟩) ?_ ?_
            rotate_left
            · intro w'
              go_simp
              with_reducible rfl
            rotate_left
            · simp only [Act.put, List.setIfInBounds_toArray, List.set_cons_zero, List.set_cons_succ, i64_w, i32_w]
              rfl
            refine pure_ (i := 1) (N := some 51) (v := ?_) (a' := ?_) #[true, true, false, false, false, false, false, false, false, false] rfl rfl (by kernel_rfl) (fun _ _ _ h => h) (Or.inl ⟨by rfl, ?_⟩) ?_ ?_
            rotate_left
            · intro w'
              go_simp
              with_reducible rfl
            rotate_left
            · simp only [Act.put, List.setIfInBounds_toArray, List.set_cons_zero, List.set_cons_succ, i64_w, i32_w]
              rfl
            refine pure_ (i := 2) (N := some 52) (v := ?_) (a' := ?_) #[true, true, true, false, false, false, false, false, false, false] rfl rfl (by kernel_rfl) (fun _ _ _ h => h) (Or.inl ⟨by rfl, ?_⟩) ?_ ?_
            rotate_left
            · intro w'
              go_simp
              with_reducible rfl
            rotate_left
            · simp only [Act.put, List.setIfInBounds_toArray, List.set_cons_zero, List.set_cons_succ, i64_w, i32_w]
              rfl
            refine take_ (i := 3) (N := some 53) (v := ?_) (a' := ?_) #[true, true, true, true, false, false, false, false, false, false] rfl rfl (by kernel_rfl) (fun _ _ _ h => h) (Or.inl ⟨by rfl, ?_⟩) hHeld ?_ ?_
            rotate_left
            · rintro w' ⟨s0_, s1_, s2_, s3_, s4_⟩
              go_simp
              with_reducible rfl
            rotate_left
            · simp only [Act.put, List.setIfInBounds_toArray, List.set_cons_zero, List.set_cons_succ, i64_w, i32_w]
              rfl
            refine pure_ (i := 4) (N := some 54) (v := ?_) (a' := ?_) #[true, true, true, true, true, false, false, false, false, false] rfl rfl (by kernel_rfl) (fun _ _ _ h => h) (Or.inl ⟨by rfl, ?_⟩) ?_ ?_
            rotate_left
            · intro w'
              go_simp
              with_reducible rfl
            rotate_left
            · simp only [Act.put, List.setIfInBounds_toArray, List.set_cons_zero, List.set_cons_succ, i64_w, i32_w]
              rfl
            refine take_ (i := 5) (N := some 55) (v := ?_) (a' := ?_) #[true, true, true, true, true, true, false, false, false, false] rfl rfl (by kernel_rfl) (fun _ _ _ h => h) (Or.inl ⟨by rfl, ?_⟩) hHeld ?_ ?_
            rotate_left
            · rintro w' ⟨s0_, s1_, s2_, s3_, s4_⟩
              go_simp
              with_reducible rfl
            rotate_left
            · simp only [Act.put, List.setIfInBounds_toArray, List.set_cons_zero, List.set_cons_succ, i64_w, i32_w]
              rfl
            refine take_ (i := 6) (N := some 56) (v := ?_) (a' := ?_) #[true, true, true, true, true, true, true, false, false, false] rfl rfl (by kernel_rfl) (fun _ _ _ h => h) (Or.inl ⟨by rfl, ?_⟩) hHeld ?_ ?_
            rotate_left
            · rintro w' ⟨s0_, s1_, s2_, s3_, s4_⟩
              go_simp
              with_reducible rfl
            rotate_left
            · simp only [Act.put, List.setIfInBounds_toArray, List.set_cons_zero, List.set_cons_succ, i64_w, i32_w]
              rfl
            refine pure_ (i := 7) (N := some 57) (v := ?_) (a' := ?_) #[true, true, true, true, true, true, true, true, false, false] rfl rfl (by kernel_rfl) (fun _ _ _ h => h) (Or.inl ⟨by rfl, ?_⟩) ?_ ?_
            rotate_left
            · intro w'
              go_simp
              with_reducible rfl
            rotate_left
            · simp only [Act.put, List.setIfInBounds_toArray, List.set_cons_zero, List.set_cons_succ, i64_w, i32_w]
              rfl
            refine last_ (i := 8) (N := some 58) #[true, true, true, true, true, true, true, true, true, false] rfl rfl (by kernel_rfl) (by decide) (fun K hK => ?_)
            refine goes_ Try.func31 (by kernel_rfl) rfl #[.slice A9 (nextK E x.f0).length c9, .func (.func 32) #[] #[.pointer (some ⟨b + 1, 0, none⟩), .pointer (some ⟨eb, 0, none⟩)]] (by rfl) rfl rfl (by (try simp only [List.map_toArray, List.map_cons, List.map_nil]); first | done | rfl) ?_
            refine HC7.out.mono ?_
            rintro e w8 ⟨rfl, hb8⟩
            refine ⟨_, rfl, ?_⟩
            refine hK.out _ _ ?_
            clear hK K hHeld
            refine norm_ (a' := ?_) ?_ ?_
            rotate_left
            · show Act.put _ (some 58) _ = _
              simp only [Act.put, List.setIfInBounds_toArray, List.set_cons_zero, List.set_cons_succ, i64_w, i32_w]
              rfl
            refine pure_ (i := 9) (N := some 13) (v := ?_) (a' := ?_) #[true, true, true, true, true, true, true, true, true, true] rfl rfl (by kernel_rfl) (fun _ _ _ h => h) (Or.inl ⟨by rfl, ?_⟩) ?_ ?_
            rotate_left
            · intro w'
              go_simp
              with_reducible rfl
            rotate_left
            · simp only [Act.put, List.setIfInBounds_toArray, List.set_cons_zero, List.set_cons_succ, i64_w, i32_w]
              rfl
            refine done_ (by kernel_rfl) ?_
            have hb78 : Below W7.heap.size W7 w8 := (below_drew1 (Below.refl _ W7)).trans hb8
            have hk8 := (hb78.block _ (lt_of_blk HK7.out)).trans HK7.out
            have y0 : w8.cell? ⟨eb, 0, none⟩ = some (.int .i64 x.f0.f0) := (cells_of_blk hk8 0).trans rfl
            have y1 : w8.cell? ⟨eb, 1, none⟩ = some (.int .i64 x.f0.f1) := (cells_of_blk hk8 1).trans rfl
            have y2 : w8.cell? ⟨eb, 2, none⟩ = some (.int .i64 x.f0.f2) := (cells_of_blk hk8 2).trans rfl
            have y3 : w8.cell? ⟨eb, 3, none⟩ = some (.int .i64 x.f1.f0) := (cells_of_blk hk8 3).trans rfl
            have y4 : w8.cell? ⟨eb, 4, none⟩ = some (.int .i64 x.f1.f1) := (cells_of_blk hk8 4).trans rfl
            have y5 : w8.cell? ⟨eb, 5, none⟩ = some (.int .i64 x.f1.f2) := (cells_of_blk hk8 5).trans rfl
            have HB8 := Aside0.mk (HB67.out.trans (hb78.mono HB67.out.size))
            have HR8 := Aside0.mk (Kd.R_below HR7.out hb78)
            have hkl := HLN.out.2
            clear hb8 hb78 HC7
            obtain ⟨bi, hbi⟩ : ∃ bi, impB E x = bi := ⟨_, rfl⟩
            have hbi' : (nextK E x.f0).any (fun k => decide (x.f1 ∈ rowF E (keysK E) k)) = bi := hbi
            rw [hbi']
            clear hbi'
            cases bi with
            | true =>
              have HN := Aside0.mk (show redN E l (i + 1) = res by rw [HSN.out]; unfold redStep; rw [if_neg (fun h => by rw [hbi] at h; cases h.1)])
              clear hbi
              go_wp2
              go_roundg k1
              case measure => omega
              case rel => exact ⟨i + 1, A10, c10, by rw [HN.out], by first | rfl | (rw [wrap_id (by omega) (by omega)]; rfl), by omega, ⟨by rw [HN.out]; exact HR8.out, HB8.out⟩⟩
            | false =>
              obtain ⟨kc, hkc⟩ := cont34 res x (by have := HRL.out; omega)
              have HC34 := Aside0.mk (api_QEdge_34.calls kc A10 c10 res x.f0.f0 x.f0.f1 x.f0.f2 x.f1.f0 x.f1.f1 x.f1.f2 _ w8 (Kd.R_reads' HR8.out).2.2 (Kd.R_reads' HR8.out).2.1 hkc)
              clear hkc
              by_cases hm : x ∈ res
              · have HN := Aside0.mk (show redN E l (i + 1) = res by rw [HSN.out]; unfold redStep; rw [if_neg (fun h => h.2 hm)])
                rw [decide_eq_true hm] at HC34
                clear hbi hm
                go_wp2_with (first | (go_at_call 34; refine HC34.out.mono ?_; rintro e w9 ⟨rfl, hb9⟩; have HB9 := Aside0.mk hb9; clear hb9))
                go_roundg k1
                case measure => omega
                case rel => exact ⟨i + 1, A10, c10, by rw [HN.out], by first | rfl | (rw [wrap_id (by omega) (by omega)]; rfl), by omega, ⟨by rw [HN.out]; exact Kd.R_below HR8.out HB9.out, HB8.out.trans (HB9.out.mono HB8.out.size)⟩⟩
              · have HN := Aside0.mk (show redN E l (i + 1) = res ++ [x] by rw [HSN.out]; unfold redStep; rw [if_pos ⟨hbi, hm⟩])
                rw [decide_eq_false hm] at HC34
                have HK8 := Aside0.mk hk8
                clear hbi hm hk8
                go_upto_region 17 with (first | (go_at_call 34; refine HC34.out.mono ?_; rintro e w9 ⟨rfl, hb9⟩; have HB9 := Aside0.mk hb9; clear hb9))
                have hk9 := (HB9.out.block _ (lt_of_blk HK8.out)).trans HK8.out
                clear y0 y1 y2 y3 y4 y5
                have y0 : w9.cell? ⟨eb, 0, none⟩ = some (.int .i64 x.f0.f0) := (cells_of_blk hk9 0).trans rfl
                have y1 : w9.cell? ⟨eb, 1, none⟩ = some (.int .i64 x.f0.f1) := (cells_of_blk hk9 1).trans rfl
                have y2 : w9.cell? ⟨eb, 2, none⟩ = some (.int .i64 x.f0.f2) := (cells_of_blk hk9 2).trans rfl
                have y3 : w9.cell? ⟨eb, 3, none⟩ = some (.int .i64 x.f1.f0) := (cells_of_blk hk9 3).trans rfl
                have y4 : w9.cell? ⟨eb, 4, none⟩ = some (.int .i64 x.f1.f1) := (cells_of_blk hk9 4).trans rfl
                have y5 : w9.cell? ⟨eb, 5, none⟩ = some (.int .i64 x.f1.f2) := (cells_of_blk hk9 5).trans rfl
                have hbw9 : Below W6.heap.size W6 w9 := HB8.out.trans (HB9.out.mono HB8.out.size)
                have hr9 := Kd.R_below HR8.out HB9.out
                have hsz9 : W6.heap.size ≤ w9.heap.size := hbw9.size
                have hrl := HRL.out
                have HR9 := Aside0.mk hr9
                have HBW9 := Aside0.mk hbw9
                clear hk9 hr9 hbw9
                go_wp2_with (first | ((with_reducible refine gate_builtin (b := .append) (xs := #[.tmp 67, .tmp 69]) rfl ?_); at_builtin; refine stop_ ?_))
                refine ⟨?_⟩
                refine Kd.R_append k44 (w0 := W6) W6.heap.size rfl (.tmp 67) (.tmp 69) 22 44 (.agg #[.int .i64 0, .int .i64 0, .int .i64 0, .int .i64 0, .int .i64 0, .int .i64 0]) 48 rfl Try.underlying22 info44_ rfl (by decide) (by omega) (.slice A10 res.length c10) res x [.int .i64 x.f0.f0, .int .i64 x.f0.f1, .int .i64 x.f0.f2, .int .i64 x.f1.f0, .int .i64 x.f1.f1, .int .i64 x.f1.f2] (fun _ => True) (fun _ => False) rfl rfl (k44_mkM _ _ _ x) (fun _ h => h.elim) (fun _ _ => trivial) HR9.out HBW9.out hsz9 (by omega) ?_
                intro v11 w11 ho11 hb11 hg11 hat11
                obtain ⟨A11, c11, hv⟩ := Kd.R_slice ho11
                subst hv
                have HO11 := Aside0.mk (And.intro ho11 hb11)
                clear ho11 hb11 hg11 hat11 y0 y1 y2 y3 y4 y5
                go_wp2
                go_roundg k1
                case measure => omega
                case rel => exact ⟨i + 1, A11, c11, by rw [HN.out, List.length_append]; rfl, by first | rfl | (rw [wrap_id (by omega) (by omega)]; rfl), by omega, ⟨by rw [HN.out]; exact HO11.out.1, HO11.out.2⟩⟩
      | succ k1 =>
        have c0' : decide ((i : Int) < ((keysK E).length : Int)) = true := decide_eq_true (by omega)
        have hil : i < (keysK E).length := by omega
        have c0'' : decide (i < (keysK E).length) = true := decide_eq_true hil
        obtain ⟨x, hx⟩ : ∃ x, rd_T24 (keysK E) (i : Int) = x := ⟨_, rfl⟩
        have hxi : (keysK E)[i] = x := by rw [← hx, rd24_at _ i hil]
        have htk : (keysK E).take (i + 1) = (keysK E).take i ++ [x] := by rw [List.take_succ_eq_append_getElem hil, hxi]
        have hbw : Below w3.heap.size w3 wr := hA.out.2.2
        obtain ⟨ad, rfl, x0, x1, x2⟩ := at_T24 (Kd.C_below HA2.out.2 hbw) (i : Int) (by omega) (by omega)
        rw [hx, Int.toNat_natCast] at x0 x1 x2
        have r0 := eq_true (show (0 : Int) ≤ (i : Int) by omega)
        have r1 := eq_true (show (i : Int) < ((keysK E).length : Int) by omega)
        have r2 := eq_true hil
        have HTK := Aside0.mk htk
        clear hil hx hxi htk hbw
        go_upto_region 9 with (fail)
        clear r0 r1 r2 x0 x1 x2 c0' c0''
        obtain ⟨kb, hkb⟩ : ∃ kb, wr.heap.size = kb := ⟨_, rfl⟩
        obtain ⟨Wk, hWk⟩ : ∃ Wk, wr.alloc (.cells #[.int .i64 x.f0, .int .i64 x.f1, .int .i64 x.f2] 24) = Wk := ⟨_, rfl⟩
        have hbk : Below wr.heap.size wr Wk := by rw [← hWk]; exact below_alloc (Below.refl _ _) _
        have hk : Wk.heap[kb]? = some (.cells #[.int .i64 x.f0, .int .i64 x.f1, .int .i64 x.f2] 24 (0, 0)) := by rw [← hkb, ← hWk]; exact hb_new _ _
        have hbell := hA.out.1.below hbk
        have hp := (hbk.block _ (lt_of_blk hA.out.2.1)).trans hA.out.2.1
        have hb3k : Below w3.heap.size w3 Wk := hA.out.2.2.trans (hbk.mono hA.out.2.2.size)
        rw [hWk]
        simp only [hkb]
        have HS := Aside0.mk (show ∀ X : World, Below Wk.heap.size Wk X → (X.cell? ⟨b + 1, 0, none⟩ = some (.map (some b)) ∧ X.cell? ⟨kb, 0, none⟩ = some (.int .i64 x.f0) ∧ X.cell? ⟨kb, 1, none⟩ = some (.int .i64 x.f1) ∧ X.cell? ⟨kb, 2, none⟩ = some (.int .i64 x.f2)) from fun X hX => by
          have h1 := (hX.block _ (lt_of_blk hp)).trans hp
          have h2 := (hX.block _ (lt_of_blk hk)).trans hk
          exact ⟨(cells_of_blk h1 0).trans rfl, (cells_of_blk h2 0).trans rfl, (cells_of_blk h2 1).trans rfl, (cells_of_blk h2 2).trans rfl⟩)
        have HBELL := Aside0.mk hbell
        have HP := Aside0.mk hp
        have HB3K := Aside0.mk hb3k
        clear hbk hk hbell hp hb3k hWk hkb
        refine start_ (n := 6) (S := fun X => X.cell? ⟨b + 1, 0, none⟩ = some (.map (some b)) ∧ X.cell? ⟨kb, 0, none⟩ = some (.int .i64 x.f0) ∧ X.cell? ⟨kb, 1, none⟩ = some (.int .i64 x.f1) ∧ X.cell? ⟨kb, 2, none⟩ = some (.int .i64 x.f2)) (ds := [5]) #[false, false, false, false, false, false] (by kernel_rfl) rfl rfl (HS.out _ (below_drew1 (Below.refl _ _))) (fun hHeld => ?_)
        refine take_ (i := 0) (N := some 34) (v := ?_) (a' := ?_) #[true, false, false, false, false, false] rfl rfl (by kernel_rfl) (fun _ _ _ h => h) (Or.inl ⟨by rfl, ?_⟩) hHeld ?_ ?_
        rotate_left
        · rintro w' ⟨s0_, s1_, s2_, s3_⟩
          go_simp
          with_reducible rfl
        rotate_left
        · simp only [Act.put, List.setIfInBounds_toArray, List.set_cons_zero, List.set_cons_succ, i64_w, i32_w]
          rfl
        refine take_ (i := 1) (N := some 35) (v := ?_) (a' := ?_) #[true, true, false, false, false, false] rfl rfl (by kernel_rfl) (fun _ _ _ h => h) (Or.inl ⟨by rfl, ?_⟩) hHeld ?_ ?_
        rotate_left
        · rintro w' ⟨s0_, s1_, s2_, s3_⟩
          go_simp
          with_reducible rfl
        rotate_left
        · simp only [Act.put, List.setIfInBounds_toArray, List.set_cons_zero, List.set_cons_succ, i64_w, i32_w]
          rfl
        refine pure_ (i := 2) (N := some 36) (v := ?_) (a' := ?_) #[true, true, true, false, false, false] rfl rfl (by kernel_rfl) (fun _ _ _ h => h) (Or.inl ⟨by rfl, ?_⟩) ?_ ?_
        rotate_left
        · intro w'
          go_simp
          with_reducible rfl
        rotate_left
        · simp only [Act.put, List.setIfInBounds_toArray, List.set_cons_zero, List.set_cons_succ, i64_w, i32_w]
          rfl
        refine take_ (i := 3) (N := some 37) (v := ?_) (a' := ?_) #[true, true, true, true, false, false] rfl rfl (by kernel_rfl) (fun _ _ _ h => h) (Or.inl ⟨by rfl, ?_⟩) hHeld ?_ ?_
        rotate_left
        · rintro w' ⟨s0_, s1_, s2_, s3_⟩
          go_simp
          with_reducible rfl
        rotate_left
        · simp only [Act.put, List.setIfInBounds_toArray, List.set_cons_zero, List.set_cons_succ, i64_w, i32_w]
          rfl
        refine one_ (i := 4) (N := some 38) #[true, true, true, true, true, false] rfl rfl (by kernel_rfl) (by decide) (fun K hK => ?_)
        refine goes_ Try.func22 (by kernel_rfl) rfl #[.pointer (some ⟨g, 0, none⟩), .agg #[.int .i64 x.f0, .int .i64 x.f1, .int .i64 x.f2]] (by rfl) rfl rfl (by (try simp only [List.map_toArray, List.map_cons, List.map_nil]); first | done | rfl) ?_
        refine (reachable_calls g mb E x Wk.drew (HG3.out.below (below_drew1 HB3K.out)) HE.out).mono ?_
        rintro e w9 ⟨v9, rfl, hr9, hb9⟩
        refine ⟨_, rfl, ?_⟩
        have hbk9 : Below Wk.heap.size Wk w9 := (below_drew1 (Below.refl _ Wk)).trans hb9
        refine hK.out _ _ (HS.out _ hbk9) (fun hHeld => ?_)
        clear hK K
        refine norm_ (a' := ?_) ?_ ?_
        rotate_left
        · show Act.put _ (some 38) _ = _
          simp only [Act.put, List.setIfInBounds_toArray, List.set_cons_zero, List.set_cons_succ, i64_w, i32_w]
          rfl
        clear hHeld
        refine last_ (i := 5) (N := none) #[true, true, true, true, true, true] rfl rfl (by kernel_rfl) (by decide) (fun K hK => ?_)
        obtain ⟨m, hm, hrows⟩ := HBELL.out.below hbk9
        obtain ⟨w10, hrun, hm10, hg10⟩ := hm.update keyLaw24 Try.underlying51 x v9
        have hrun' : (Instr.mapUpdate 51 (.map (some b)) (.agg #[.int .i64 x.f0, .int .i64 x.f1, .int .i64 x.f2]) v9).run Try.prog w9 = .ok () w10 := hrun
        refine skip_ (w1 := w10) (by rfl) rfl ?_ ?_
        · go_simp
        clear hrun hrun'
        refine hK.out _ _ (done_ (by kernel_rfl) ?_)
        clear hK K
        have hpl := lt_of_blk HP.out
        have hz9 : Wk.heap.size ≤ w9.heap.size := hbk9.size
        have hbw := HBW.out
        have HFIN := Aside0.mk (show BelI E ((keysK E).take (i + 1)) b w10 ∧ w10.heap[b + 1]? = some (.cells #[.map (some b)] 51 (0, 0)) ∧ Below w3.heap.size w3 w10 from
          ⟨by rw [HTK.out]; exact BelI.put hrows (Kd.R_lower hr9 (by show b + 2 ≤ Wk.heap.size; omega)) hm10 hg10,
            (hg10.block _ (by omega) (fun e => by have := Option.some.inj e; omega)).trans ((hbk9.block _ hpl).trans HP.out),
            (HB3K.out.trans (hbk9.mono (by omega))).grown hg10 (by have := hbk9.size; omega) (fun q h => by have := Option.some.inj h; omega)⟩)
        have hkl := keysK_len E
        have hel := HE.out
        clear hm10 hg10 hm hrows hr9 hb9 hbk9 hbw hpl hz9
        go_wp2
        go_roundg k1
        case measure => omega
        case rel => exact ⟨i + 1, by first | rfl | (rw [wrap_id (by omega) (by omega)]; rfl), by omega, HFIN⟩
end
def depgraph_TransitiveReduction.f (l0 : List S44) : Option (List S44 × Int) := some (redOut (l0.take 400), topoErr (topoR (edgesP false (l0.take 400))))
theorem depgraph_TransitiveReduction.calls (A0 : Option Addr) (c0 : Nat) (l0 : List (S44)) (r1 : List S44) (r2 : Int) (w : World) (hr0 : Kd.C k44 w A0 l0.length l0) (hc0 : l0.length ≤ c0) (h : depgraph_TransitiveReduction.f l0 = some (r1, r2)) :
    Calls Try.prog 18 #[.slice A0 l0.length c0] w fun e w' => ∃ v0_ : Value, e = .returned (.tuple #[v0_, .int .i64 r2]) ∧ Kd.R k44 44 w' w.heap.size (fun _ => True) v0_ r1 ∧ Below w.heap.size w w' := by
  obtain ⟨rfl, rfl⟩ := Prod.mk.inj (Option.some.inj h)
  exact reduction_calls A0 c0 l0 w hr0 hc0

end Go.Proofs.Ytofonbfpjfabbaa.QDepgraphReduction
