/-
  ProgressAssembler: Add.
-/
import Derived.Test.YtogpjenmfgpfiaaHandPaS
namespace Go.Proofs.Ytogpjenmfgpfiaa.QProgressAssembler
open Go.RowKit Go.Proofs.YtogpjenmfgpfiaaW.PrintWords Go.Proofs.YtogpjenmfgpfiaaW.PrintLast Go.Proofs.YtogpjenmfgpfiaaW.PrintMore Go.Proofs.Ytogpjenmfgpfiaa.Hand
attribute [local go_sem] max2_int min2_int max_two min_two max_three min_three max_four min_four
set_option linter.unusedVariables false
set_option linter.unusedSimpArgs false
/-- A chunk conflicts with what bounds says. -/
def Conf (c : S51) (f g : Int) : Prop := (0 ≤ f ∧ f < c.f1) ∨ (c.f2 = true ∧ c.f1 < g)
def AddQ (w : World) (ab om : Nat) (ms : List (Int × Tk)) (c : S51) (e : Ending) (w' : World) : Prop :=
  ((c.f0 < 0 ∨ c.f1 < 0 ∨ 1000 ≤ c.f1) ∧ e = .returned (.tuple #[.bool false, .int .i64 1]) ∧ Below w.heap.size w w') ∨
  (0 ≤ c.f0 ∧ 0 ≤ c.f1 ∧ c.f1 < 1000 ∧ ((1000 < c.f3.length ∧ e = .returned (.tuple #[.bool false, .int .i64 2]) ∧ Below w.heap.size w w') ∨
    (c.f3.length ≤ 1000 ∧ ((∃ r, ck ms c.f0 c.f1 = some r ∧ Below w.heap.size w w' ∧ (r.v.f2 = c.f2 ∧ r.v.f3 = c.f3 ∧ e = .returned (.tuple #[.bool false, .int .i64 0]) ∨ ¬ (r.v.f2 = c.f2 ∧ r.v.f3 = c.f3) ∧ e = .returned (.tuple #[.bool false, .int .i64 10]))) ∨
      (ck ms c.f0 c.f1 = none ∧ ∃ f g, Bnd (tk ms c.f0) f g ∧ ((Conf c f g ∧ e = .returned (.tuple #[.bool false, .int .i64 10]) ∧ Below w.heap.size w w') ∨
        (¬ Conf c f g ∧ e = .returned (.tuple #[.bool true, .int .i64 0]) ∧ ∃ b r, r.v = c ∧ AsI ab om (mset ms c.f0 ⟨b, mset (tk ms c.f0) c.f1 r⟩) w' ∧ Chg (fun k => k = om ∨ some k = tb ms c.f0) w w' ∧ (tb ms c.f0 = some b ∨ w.heap.size ≤ b))))))))
set_option maxRecDepth 100000 in
set_option maxHeartbeats 16000000 in
theorem add_calls {ab om : Nat} {ms : List (Int × Tk)} {w : World} (h : AsI ab om ms w) (c : S51) (A : Option Addr) (ca : Nat) (hC : ∀ W', Chg (fun k => k = om) w W' → Kd.C (Kd.int .i64) W' A c.f3.length c.f3) (hca : c.f3.length ≤ ca) (hcl : c.f3.length < 17592186044416) (hk : ∀ q ∈ tk ms c.f0, 0 ≤ q.1 ∧ q.1 < 1000) (hit : ∀ s, ((ck ms c.f0 s).getD zCk).v.f3.length ≤ 1000) :
    Calls Try.prog 19 #[.pointer (some ⟨ab, 0, none⟩), .agg #[.int .i64 c.f0, .int .i64 c.f1, .bool c.f2, .slice A c.f3.length ca]] w (AddQ w ab om ms c) := by
  have HI := Aside0.mk h
  have HC := Aside0.mk hC
  have HCA := Aside0.mk hca
  have HCL := Aside0.mk hcl
  have HK := Aside0.mk hk
  have HIT := Aside0.mk hit
  have hu51 := Try.underlying51
  have hmm := @run_makeMap Try.prog
  have hq95 : ∀ X b, (binOp .eql 95 (.map b) (.map none)).run Try.prog X = .ok (.bool b.isNone) X := fun X b => run_eql_map_nil X 95 _ _ b Try.underlying95
  clear h hC hca hk hcl hit
  go_enter Try.func19, Try.ntmps19
  by_cases g0 : c.f0 < 0
  · have b0 : decide (c.f0 < 0) = true := decide_eq_true g0
    go_wp2
    refine bodyPost_ret (results_2 rfl _ _ _) rfl ?_
    exact .inl ⟨.inl (by omega), rfl, below_alloc (Below.refl _ _) _⟩
  have b0 : decide (c.f0 < 0) = false := decide_eq_false g0
  by_cases g1 : c.f1 < 0
  · have b1 : decide (c.f1 < 0) = true := decide_eq_true g1
    go_wp2
    refine bodyPost_ret (results_2 rfl _ _ _) rfl ?_
    exact .inl ⟨.inr (.inl (by omega)), rfl, below_alloc (Below.refl _ _) _⟩
  have b1 : decide (c.f1 < 0) = false := decide_eq_false g1
  by_cases g2 : c.f1 ≥ 1000
  · have b2 : decide (c.f1 ≥ 1000) = true := decide_eq_true g2
    go_wp2
    refine bodyPost_ret (results_2 rfl _ _ _) rfl ?_
    exact .inl ⟨.inr (.inr (by omega)), rfl, below_alloc (Below.refl _ _) _⟩
  have b2 : decide (c.f1 ≥ 1000) = false := decide_eq_false g2
  by_cases g3 : (c.f3.length : Int) > 1000
  · have b3 : decide ((c.f3.length : Int) > 1000) = true := decide_eq_true g3
    have b3' : decide (c.f3.length > 1000) = true := decide_eq_true (by omega)
    go_wp2
    refine bodyPost_ret (results_2 rfl _ _ _) rfl ?_
    exact .inr ⟨by omega, by omega, by omega, .inl ⟨by omega, rfl, below_alloc (Below.refl _ _) _⟩⟩
  have b3 : decide ((c.f3.length : Int) > 1000) = false := decide_eq_false g3
  have b3' : decide (c.f3.length > 1000) = false := decide_eq_false (by omega)
  have HG := Aside0.mk (show 0 ≤ c.f0 ∧ 0 ≤ c.f1 ∧ c.f1 < 1000 ∧ c.f3.length ≤ 1000 from ⟨by omega, by omega, by omega, by omega⟩)
  go_upto_region 5 with (fail)
  clear b0 b1 b2 b3 b3' g0 g1 g2 g3
  obtain ⟨W1, hW1⟩ : ∃ W1, w.alloc (.cells #[.int .i64 c.f0, .int .i64 c.f1, .bool c.f2, .slice A c.f3.length ca] 51) = W1 := ⟨_, rfl⟩
  have hb1 : Below w.heap.size w W1 := by rw [← hW1]; exact below_alloc (Below.refl _ _) _
  have hk1 : W1.heap[w.heap.size]? = some (.cells #[.int .i64 c.f0, .int .i64 c.f1, .bool c.f2, .slice A c.f3.length ca] 51 (0, 0)) := by rw [← hW1]; exact hb_new _ _
  rw [hW1]
  clear hW1
  obtain ⟨r, hr⟩ : ∃ r, (ck ms c.f0 c.f1).getD zCk = r := ⟨_, rfl⟩
  obtain ⟨bo, hbo⟩ : ∃ bo, (ck ms c.f0 c.f1).isSome = bo := ⟨_, rfl⟩
  have HS := Aside0.mk (show ∀ X, Below W1.heap.size W1 X → (X.cell? ⟨ab, 0, none⟩ = some (.map (some om)) ∧ X.cell? ⟨w.heap.size, 0, none⟩ = some (.int .i64 c.f0) ∧ X.cell? ⟨w.heap.size, 1, none⟩ = some (.int .i64 c.f1) ∧
      (Instr.lookup 91 (.map (some om)) (.int .i64 c.f0) false).run Try.prog X = .ok (.map (tb ms c.f0)) X ∧
      (Instr.lookup 95 (.map (tb ms c.f0)) (.int .i64 c.f1) true).run Try.prog X = .ok (.tuple #[.agg #[.int .i64 r.v.f0, .int .i64 r.v.f1, .bool r.v.f2, .slice r.A r.v.f3.length r.c], .bool bo]) X) from fun X hX => by
    have hk := (hX.block _ (lt_of_blk hk1)).trans hk1
    have hIX := HI.out.below (hb1.trans (hX.mono hb1.size))
    refine ⟨hIX.cell, (cells_of_blk hk 0).trans rfl, (cells_of_blk hk 1).trans rfl, hIX.outer _, ?_⟩
    have := hIX.inner c.f0 c.f1 true
    rw [hr, hbo] at this
    exact this)
  have HB1 := Aside0.mk hb1
  have HK1 := Aside0.mk hk1
  clear hb1 hk1
  refine start_ (n := 16) (S := fun w' => w'.cell? ⟨ab, 0, none⟩ = some (.map (some om)) ∧ w'.cell? ⟨w.heap.size, 0, none⟩ = some (.int .i64 c.f0) ∧ w'.cell? ⟨w.heap.size, 1, none⟩ = some (.int .i64 c.f1) ∧ (Instr.lookup 91 (.map (some om)) (.int .i64 c.f0) false).run Try.prog w' = .ok (.map (tb ms c.f0)) w' ∧ (Instr.lookup 95 (.map (tb ms c.f0)) (.int .i64 c.f1) true).run Try.prog w' = .ok (.tuple #[.agg #[.int .i64 r.v.f0, .int .i64 r.v.f1, .bool r.v.f2, .slice r.A r.v.f3.length r.c], .bool bo]) w') (ds := ([] : List Nat)) #[false, false, false, false, false, false, false, false, false, false, false, false, false, false, false, false] (by kernel_rfl) rfl rfl (HS.out _ (below_drew1 (Below.refl _ _))) (fun hHeld => ?_)
  refine pure_ (i := 0) (N := some 30) (v := ?_) (a' := ?_) #[true, false, false, false, false, false, false, false, false, false, false, false, false, false, false, false] rfl rfl (by kernel_rfl) (fun _ _ _ h => h) (Or.inl ⟨by rfl, ?_⟩) ?_ ?_
  rotate_left
  · intro w'
    go_simp
    with_reducible rfl
  rotate_left
  · simp only [Act.put, List.setIfInBounds_toArray, List.set_cons_zero, List.set_cons_succ, i64_w, i32_w]
    rfl
  refine pure_ (i := 1) (N := some 31) (v := ?_) (a' := ?_) #[true, true, false, false, false, false, false, false, false, false, false, false, false, false, false, false] rfl rfl (by kernel_rfl) (fun _ _ _ h => h) (Or.inl ⟨by rfl, ?_⟩) ?_ ?_
  rotate_left
  · intro w'
    go_simp
    with_reducible rfl
  rotate_left
  · simp only [Act.put, List.setIfInBounds_toArray, List.set_cons_zero, List.set_cons_succ, i64_w, i32_w]
    rfl
  refine pure_ (i := 2) (N := some 32) (v := ?_) (a' := ?_) #[true, true, true, false, false, false, false, false, false, false, false, false, false, false, false, false] rfl rfl (by kernel_rfl) (fun _ _ _ h => h) (Or.inl ⟨by rfl, ?_⟩) ?_ ?_
  rotate_left
  · intro w'
    go_simp
    with_reducible rfl
  rotate_left
  · simp only [Act.put, List.setIfInBounds_toArray, List.set_cons_zero, List.set_cons_succ, i64_w, i32_w]
    rfl
  refine take_ (i := 3) (N := some 33) (v := ?_) (a' := ?_) #[true, true, true, true, false, false, false, false, false, false, false, false, false, false, false, false] rfl rfl (by kernel_rfl) (fun _ _ _ h => h) (Or.inl ⟨by rfl, ?_⟩) hHeld ?_ ?_
  rotate_left
  · rintro w' ⟨s0_, s1_, s2_, s3_, s4_⟩
    go_simp
    with_reducible rfl
  rotate_left
  · simp only [Act.put, List.setIfInBounds_toArray, List.set_cons_zero, List.set_cons_succ, i64_w, i32_w]
    rfl
  refine pure_ (i := 4) (N := some 34) (v := ?_) (a' := ?_) #[true, true, true, true, true, false, false, false, false, false, false, false, false, false, false, false] rfl rfl (by kernel_rfl) (fun _ _ _ h => h) (Or.inl ⟨by rfl, ?_⟩) ?_ ?_
  rotate_left
  · intro w'
    go_simp
    with_reducible rfl
  rotate_left
  · simp only [Act.put, List.setIfInBounds_toArray, List.set_cons_zero, List.set_cons_succ, i64_w, i32_w]
    rfl
  refine take_ (i := 5) (N := some 35) (v := ?_) (a' := ?_) #[true, true, true, true, true, true, false, false, false, false, false, false, false, false, false, false] rfl rfl (by kernel_rfl) (fun _ _ _ h => h) (Or.inl ⟨by rfl, ?_⟩) hHeld ?_ ?_
  rotate_left
  · rintro w' ⟨s0_, s1_, s2_, s3_, s4_⟩
    go_simp
    with_reducible rfl
  rotate_left
  · simp only [Act.put, List.setIfInBounds_toArray, List.set_cons_zero, List.set_cons_succ, i64_w, i32_w]
    rfl
  refine take_ (i := 6) (N := some 36) (v := ?_) (a' := ?_) #[true, true, true, true, true, true, true, false, false, false, false, false, false, false, false, false] rfl rfl (by kernel_rfl) (fun _ _ _ h => h) (Or.inl ⟨by rfl, ?_⟩) hHeld ?_ ?_
  rotate_left
  · rintro w' ⟨s0_, s1_, s2_, s3_, s4_⟩
    go_simp
    with_reducible rfl
  rotate_left
  · simp only [Act.put, List.setIfInBounds_toArray, List.set_cons_zero, List.set_cons_succ, i64_w, i32_w]
    rfl
  refine pure_ (i := 7) (N := some 37) (v := ?_) (a' := ?_) #[true, true, true, true, true, true, true, true, false, false, false, false, false, false, false, false] rfl rfl (by kernel_rfl) (fun _ _ _ h => h) (Or.inl ⟨by rfl, ?_⟩) ?_ ?_
  rotate_left
  · intro w'
    go_simp
    with_reducible rfl
  rotate_left
  · simp only [Act.put, List.setIfInBounds_toArray, List.set_cons_zero, List.set_cons_succ, i64_w, i32_w]
    rfl
  refine take_ (i := 8) (N := some 38) (v := ?_) (a' := ?_) #[true, true, true, true, true, true, true, true, true, false, false, false, false, false, false, false] rfl rfl (by kernel_rfl) (fun _ _ _ h => h) (Or.inl ⟨by rfl, ?_⟩) hHeld ?_ ?_
  rotate_left
  · rintro w' ⟨s0_, s1_, s2_, s3_, s4_⟩
    go_simp
    with_reducible rfl
  rotate_left
  · simp only [Act.put, List.setIfInBounds_toArray, List.set_cons_zero, List.set_cons_succ, i64_w, i32_w]
    rfl
  refine take_ (i := 9) (N := some 39) (v := ?_) (a' := ?_) #[true, true, true, true, true, true, true, true, true, true, false, false, false, false, false, false] rfl rfl (by kernel_rfl) (fun _ _ _ h => h) (Or.inl ⟨by rfl, ?_⟩) hHeld ?_ ?_
  rotate_left
  · rintro w' ⟨s0_, s1_, s2_, s3_, s4_⟩
    go_simp
    with_reducible rfl
  rotate_left
  · simp only [Act.put, List.setIfInBounds_toArray, List.set_cons_zero, List.set_cons_succ, i64_w, i32_w]
    rfl
  refine pure_ (i := 10) (N := some 29) (v := ?_) (a' := ?_) #[true, true, true, true, true, true, true, true, true, true, true, false, false, false, false, false] rfl rfl (by kernel_rfl) (fun _ _ _ h => h) (Or.inl ⟨by rfl, ?_⟩) ?_ ?_
  rotate_left
  · intro w'
    go_simp
    with_reducible rfl
  rotate_left
  · simp only [Act.put, List.setIfInBounds_toArray, List.set_cons_zero, List.set_cons_succ, i64_w, i32_w]
    rfl
  refine pure_ (i := 11) (N := some 40) (v := ?_) (a' := ?_) #[true, true, true, true, true, true, true, true, true, true, true, true, false, false, false, false] rfl rfl (by kernel_rfl) (fun _ _ _ h => h) (Or.inl ⟨by rfl, ?_⟩) ?_ ?_
  rotate_left
  · intro w'
    go_simp
    with_reducible rfl
  rotate_left
  · simp only [Act.put, List.setIfInBounds_toArray, List.set_cons_zero, List.set_cons_succ, i64_w, i32_w]
    rfl
  refine pure_ (i := 12) (N := some 41) (v := ?_) (a' := ?_) #[true, true, true, true, true, true, true, true, true, true, true, true, true, false, false, false] rfl rfl (by kernel_rfl) (fun _ _ _ h => h) (Or.inl ⟨by rfl, ?_⟩) ?_ ?_
  rotate_left
  · intro w'
    go_simp
    with_reducible rfl
  rotate_left
  · simp only [Act.put, List.setIfInBounds_toArray, List.set_cons_zero, List.set_cons_succ, i64_w, i32_w]
    rfl
  refine one_ (i := 13) (N := some 6) #[true, true, true, true, true, true, true, true, true, true, true, true, true, true, false, false] rfl rfl (by kernel_rfl) (by decide) (fun K hK => ?_)
  refine value_ (v := .pointer (some ⟨W1.heap.size, 0, none⟩)) (w1 := W1.drew.alloc (.cells #[.int .i64 0, .int .i64 0, .bool false, .slice none 0 0] 51)) (by rfl) rfl ?_ ?_
  · go_simp
  refine hK.out _ _ (HS.out _ (below_alloc (below_drew1 (Below.refl _ _)) _)) (fun hHeld => ?_)
  clear hK K
  refine norm_ (a' := ?_) ?_ ?_
  rotate_left
  · show Act.put _ (some 6) _ = _
    simp only [Act.put, List.setIfInBounds_toArray, List.set_cons_zero, List.set_cons_succ, i64_w, i32_w]
    rfl
  refine one_ (i := 14) (N := none) #[true, true, true, true, true, true, true, true, true, true, true, true, true, true, true, false] rfl rfl (by kernel_rfl) (by decide) (fun K hK => ?_)
  refine skip_ (w1 := ?_) (by rfl) rfl ?_ ?_
  rotate_left
  · go_simp
    rfl
  refine hK.out _ _ (HS.out _ (below_drew1 (below_alloc (Below.refl _ _) (.cells #[.int .i64 r.v.f0, .int .i64 r.v.f1, .bool r.v.f2, .slice r.A r.v.f3.length r.c] 51)))) (fun hHeld => ?_)
  clear hK K
  refine pure_ (i := 15) (N := some 7) (v := ?_) (a' := ?_) #[true, true, true, true, true, true, true, true, true, true, true, true, true, true, true, true] rfl rfl (by kernel_rfl) (fun _ _ _ h => h) (Or.inl ⟨by rfl, ?_⟩) ?_ ?_
  rotate_left
  · intro w'
    go_simp
    with_reducible rfl
  rotate_left
  · simp only [Act.put, List.setIfInBounds_toArray, List.set_cons_zero, List.set_cons_succ, i64_w, i32_w]
    rfl
  refine done_ (by kernel_rfl) ?_
  clear hHeld
  obtain ⟨W3, hW3⟩ : ∃ W3, (W1.alloc (.cells #[.int .i64 r.v.f0, .int .i64 r.v.f1, .bool r.v.f2, .slice r.A r.v.f3.length r.c] 51)).drew = W3 := ⟨_, rfl⟩
  have hb3 : Below W1.heap.size W1 W3 := by rw [← hW3]; exact below_drew1 (below_alloc (Below.refl _ _) _)
  have hx3 : W3.heap[W1.heap.size]? = some (.cells #[.int .i64 r.v.f0, .int .i64 r.v.f1, .bool r.v.f2, .slice r.A r.v.f3.length r.c] 51 (0, 0)) := by rw [← hW3]; exact hb_new W1 _
  rw [hW3]
  clear hW3
  have HB3 := Aside0.mk (HB1.out.trans (hb3.mono HB1.out.size))
  have hk3 := (hb3.block _ (lt_of_blk HK1.out)).trans HK1.out
  have HK3 := Aside0.mk hk3
  have HX3 := Aside0.mk hx3
  have HI3 := Aside0.mk (HI.out.below HB3.out)
  cases bo with
  | true =>
    obtain ⟨r', hr'⟩ : ∃ r', ck ms c.f0 c.f1 = some r' := Option.isSome_iff_exists.1 hbo
    obtain rfl : r' = r := by rw [← hr, hr']; rfl
    have hrr := HI3.out.ck_ok c.f0 c.f1
    have hrl := HIT.out c.f1
    rw [hr] at hrr hrl
    have HRR := Aside0.mk hrr
    have HFD := Aside0.mk hr'
    have y2 : W3.cell? ⟨w.heap.size, 2, none⟩ = some (.bool c.f2) := (cells_of_blk hk3 2).trans rfl
    have y3 : W3.cell? ⟨w.heap.size, 3, none⟩ = some (.slice A c.f3.length ca) := (cells_of_blk hk3 3).trans rfl
    have x2 : W3.cell? ⟨W1.heap.size, 2, none⟩ = some (.bool r'.v.f2) := (cells_of_blk hx3 2).trans rfl
    have x3 : W3.cell? ⟨W1.heap.size, 3, none⟩ = some (.slice r'.A r'.v.f3.length r'.c) := (cells_of_blk hx3 3).trans rfl
    obtain ⟨kk, hkk⟩ := eqS_f r'.v.f3 c.f3 (by omega)
    have HKK := Aside0.mk hkk
    clear hb3 hk3 hx3 hr hbo hr' hrr hrl hkk
    go_upto_region 7 with (fail)
    by_cases e1 : r'.v.f2 = c.f2
    · have e1' : (r'.v.f2 == c.f2) = true := by rw [e1]; simp
      have HE1 := Aside0.mk e1
      clear e1
      by_cases e2 : r'.v.f3 = c.f3
      · have HE2 := Aside0.mk e2
        clear e2
        go_wp2_with (go_at_call 45; refine (slices_Equal_int_int.calls kk r'.A r'.c r'.v.f3 A ca c.f3 _ _ HRR.out.reads HRR.out.cap (HC.out _ (Chg.of_new HB3.out)) HCA.out HKK.out).mono ?_; rintro e w5 ⟨rfl, hd⟩; rw [decide_eq_true HE2.out]; have HD := Aside0.mk (HB3.out.trans ((Chg.drawn (S := fun _ => False) hd).to_below (fun _ _ e => e.elim) HB3.out.size)); clear hd)
        refine bodyPost_ret (results_2 rfl _ _ _) rfl ?_
        exact .inr ⟨HG.out.1, HG.out.2.1, HG.out.2.2.1, .inr ⟨HG.out.2.2.2, .inl ⟨r', HFD.out, HD.out, .inl ⟨HE1.out, HE2.out, rfl⟩⟩⟩⟩
      · have HE2 := Aside0.mk e2
        clear e2
        go_wp2_with (go_at_call 45; refine (slices_Equal_int_int.calls kk r'.A r'.c r'.v.f3 A ca c.f3 _ _ HRR.out.reads HRR.out.cap (HC.out _ (Chg.of_new HB3.out)) HCA.out HKK.out).mono ?_; rintro e w5 ⟨rfl, hd⟩; rw [decide_eq_false HE2.out]; have HD := Aside0.mk (HB3.out.trans ((Chg.drawn (S := fun _ => False) hd).to_below (fun _ _ e => e.elim) HB3.out.size)); clear hd)
        refine bodyPost_ret (results_2 rfl _ _ _) rfl ?_
        exact .inr ⟨HG.out.1, HG.out.2.1, HG.out.2.2.1, .inr ⟨HG.out.2.2.2, .inl ⟨r', HFD.out, HD.out, .inr ⟨fun e => HE2.out e.2, rfl⟩⟩⟩⟩
    · have e1' : (r'.v.f2 == c.f2) = false := by simpa using e1
      have HE1 := Aside0.mk e1
      clear e1
      go_wp2
      refine bodyPost_ret (results_2 rfl _ _ _) rfl ?_
      exact .inr ⟨HG.out.1, HG.out.2.1, HG.out.2.2.1, .inr ⟨HG.out.2.2.2, .inl ⟨r', HFD.out, HB3.out, .inr ⟨fun e => HE1.out e.1, rfl⟩⟩⟩⟩
  | false =>
    have hnone : ck ms c.f0 c.f1 = none := by
      cases e : ck ms c.f0 c.f1 with
      | none => rfl
      | some q => rw [e] at hbo; cases hbo
    have HN := Aside0.mk hnone
    clear hb3 hk3 hx3 hr hbo hnone
    go_upto_if 42 with (fail)
    iterate 5 (first | go_values | go_skip | go_guarded | go_step | go_upon | go_back | go_simp)
    go_cut [] (fun wx => Aside0 (∃ f g, Bnd (tk ms c.f0) f g ∧ ¬ Conf c f g ∧ Below W3.heap.size W3 wx))
    case first =>
      have y0 : W3.cell? ⟨w.heap.size, 0, none⟩ = some (.int .i64 c.f0) := (cells_of_blk HK3.out 0).trans rfl
      go_upto_region 11 with (go_at_call 46; refine (bounds_calls HI3.out c.f0 (fun q hq => (HK.out q hq).1)).mono ?_; rintro e w5 ⟨f, g, rfl, hB, hb5⟩; have HB := Aside0.mk hB; have HB5 := Aside0.mk hb5; clear hB hb5)
      have hk5 := (HB5.out.block _ (lt_of_blk HK3.out)).trans HK3.out
      have z1 : w5.cell? ⟨w.heap.size, 1, none⟩ = some (.int .i64 c.f1) := (cells_of_blk hk5 1).trans rfl
      have z2 : w5.cell? ⟨w.heap.size, 2, none⟩ = some (.bool c.f2) := (cells_of_blk hk5 2).trans rfl
      have HBW := Aside0.mk (HB3.out.trans (HB5.out.mono HB3.out.size))
      obtain ⟨la, hla⟩ : ∃ la, c.f2 = la := ⟨_, rfl⟩
      rw [hla] at z2
      have HLA := Aside0.mk hla
      clear y0 hk5 hla
      have tail : True := trivial
      by_cases f0 : f ≥ 0 ∧ f < c.f1
      · have f1 : decide (f ≥ 0) = true := decide_eq_true f0.1
        have f2 : decide (f < c.f1) = true := decide_eq_true f0.2
        have HF := Aside0.mk (show Conf c f g from .inl f0)
        clear f0
        go_wp2
        refine bodyPost_ret (results_2 rfl _ _ _) rfl ?_
        exact .inr ⟨HG.out.1, HG.out.2.1, HG.out.2.2.1, .inr ⟨HG.out.2.2.2, .inr ⟨HN.out, f, g, HB.out, .inl ⟨HF.out, rfl, HBW.out⟩⟩⟩⟩
      by_cases g0 : la = true ∧ g > c.f1
      · obtain ⟨rfl, g0⟩ := g0
        have g1 : decide (g > c.f1) = true := decide_eq_true g0
        have HF := Aside0.mk (show Conf c f g from .inr ⟨HLA.out, g0⟩)
        by_cases f1' : f ≥ 0
        · have f1 : decide (f ≥ 0) = true := decide_eq_true f1'
          have f2 : decide (f < c.f1) = false := decide_eq_false (by omega)
          clear f0 f1' g0
          go_wp2
          refine bodyPost_ret (results_2 rfl _ _ _) rfl ?_
          exact .inr ⟨HG.out.1, HG.out.2.1, HG.out.2.2.1, .inr ⟨HG.out.2.2.2, .inr ⟨HN.out, f, g, HB.out, .inl ⟨HF.out, rfl, HBW.out⟩⟩⟩⟩
        · have f1 : decide (f ≥ 0) = false := decide_eq_false f1'
          clear f0 f1' g0
          go_wp2
          refine bodyPost_ret (results_2 rfl _ _ _) rfl ?_
          exact .inr ⟨HG.out.1, HG.out.2.1, HG.out.2.2.1, .inr ⟨HG.out.2.2.2, .inr ⟨HN.out, f, g, HB.out, .inl ⟨HF.out, rfl, HBW.out⟩⟩⟩⟩
      have HNC := Aside0.mk (show ¬ Conf c f g by
        unfold Conf
        rintro (e1 | ⟨e1, e2⟩)
        · exact f0 ⟨by omega, by omega⟩
        · exact g0 ⟨by rw [← HLA.out]; exact e1, e2⟩)
      by_cases f1' : f ≥ 0
      · have f1 : decide (f ≥ 0) = true := decide_eq_true f1'
        have f2 : decide (f < c.f1) = false := decide_eq_false (by omega)
        clear f0 f1'
        cases la with
        | true =>
          have g1 : decide (g > c.f1) = false := decide_eq_false (fun e => g0 ⟨rfl, e⟩)
          clear g0
          go_wp2
          go_meet
          case rel => exact ⟨⟨f, g, HB.out, HNC.out, HB5.out⟩⟩
        | false =>
          clear g0
          go_wp2
          go_meet
          case rel => exact ⟨⟨f, g, HB.out, HNC.out, HB5.out⟩⟩
      · have f1 : decide (f ≥ 0) = false := decide_eq_false f1'
        clear f0 f1'
        cases la with
        | true =>
          have g1 : decide (g > c.f1) = false := decide_eq_false (fun e => g0 ⟨rfl, e⟩)
          clear g0
          go_wp2
          go_meet
          case rel => exact ⟨⟨f, g, HB.out, HNC.out, HB5.out⟩⟩
        | false =>
          clear g0
          go_wp2
          go_meet
          case rel => exact ⟨⟨f, g, HB.out, HNC.out, HB5.out⟩⟩
    case rest =>
      obtain ⟨f, g, hB, hNC, hbw⟩ := hcut.out
      have HB := Aside0.mk hB
      have HNC := Aside0.mk hNC
      have HBW := Aside0.mk (HB3.out.trans (hbw.mono HB3.out.size))
      have HI4 := Aside0.mk (HI3.out.below hbw)
      have HK4 := Aside0.mk ((hbw.block _ (lt_of_blk HK3.out)).trans HK3.out)
      clear hB hNC hbw hcut HI3 HK3 HX3 HS hHeld
      obtain ⟨ob, hob⟩ : ∃ ob, tb ms c.f0 = ob := ⟨_, rfl⟩
      have HS4 := Aside0.mk (show ∀ X, Below wc.heap.size wc X → (X.cell? ⟨ab, 0, none⟩ = some (.map (some om)) ∧ X.cell? ⟨w.heap.size, 0, none⟩ = some (.int .i64 c.f0) ∧ (Instr.lookup 91 (.map (some om)) (.int .i64 c.f0) false).run Try.prog X = .ok (.map ob) X) from fun X hX => by
        have hk := (hX.block _ (lt_of_blk HK4.out)).trans HK4.out
        have hIX := HI4.out.below hX
        refine ⟨hIX.cell, (cells_of_blk hk 0).trans rfl, ?_⟩
        rw [← hob]
        exact hIX.outer _)
      obtain ⟨W4, rfl⟩ : ∃ W4, W4 = wc := ⟨_, rfl⟩
      iterate 2 (first | go_values | go_skip | go_guarded | go_step | go_upon | go_back | go_simp)
      go_cut [] (fun wx => Aside0 (∃ b, AsI ab om (mset ms c.f0 ⟨b, tk ms c.f0⟩) wx ∧ Chg (fun k => k = om) W4 wx ∧ (tb ms c.f0 = some b ∨ W4.heap.size ≤ b)))
      case first =>
        go_upto_region 13 with (fail)
        cases em : mget ms c.f0 with
        | some k =>
          obtain rfl : ob = some k.b := by rw [← hob, tb_some em]
          have HEM := Aside0.mk em
          clear em hob
          refine start_ (n := 8) (S := fun w' => w'.cell? ⟨ab, 0, none⟩ = some (.map (some om)) ∧ w'.cell? ⟨w.heap.size, 0, none⟩ = some (.int .i64 c.f0) ∧ (Instr.lookup 91 (.map (some om)) (.int .i64 c.f0) false).run Try.prog w' = .ok (.map (some k.b)) w') (ds := ([] : List Nat)) #[false, false, false, false, false, false, false, false] (by kernel_rfl) rfl rfl (HS4.out _ (below_drew1 (Below.refl _ _))) (fun hHeld => ?_)
          refine pure_ (i := 0) (N := some 80) (v := ?_) (a' := ?_) #[true, false, false, false, false, false, false, false] rfl rfl (by kernel_rfl) (fun _ _ _ h => h) (Or.inl ⟨by rfl, ?_⟩) ?_ ?_
          rotate_left
          · intro w'
            go_simp
            with_reducible rfl
          rotate_left
          · simp only [Act.put, List.setIfInBounds_toArray, List.set_cons_zero, List.set_cons_succ, i64_w, i32_w]
            rfl
          refine pure_ (i := 1) (N := some 81) (v := ?_) (a' := ?_) #[true, true, false, false, false, false, false, false] rfl rfl (by kernel_rfl) (fun _ _ _ h => h) (Or.inl ⟨by rfl, ?_⟩) ?_ ?_
          rotate_left
          · intro w'
            go_simp
            with_reducible rfl
          rotate_left
          · simp only [Act.put, List.setIfInBounds_toArray, List.set_cons_zero, List.set_cons_succ, i64_w, i32_w]
            rfl
          refine pure_ (i := 2) (N := some 82) (v := ?_) (a' := ?_) #[true, true, true, false, false, false, false, false] rfl rfl (by kernel_rfl) (fun _ _ _ h => h) (Or.inl ⟨by rfl, ?_⟩) ?_ ?_
          rotate_left
          · intro w'
            go_simp
            with_reducible rfl
          rotate_left
          · simp only [Act.put, List.setIfInBounds_toArray, List.set_cons_zero, List.set_cons_succ, i64_w, i32_w]
            rfl
          refine take_ (i := 3) (N := some 83) (v := ?_) (a' := ?_) #[true, true, true, true, false, false, false, false] rfl rfl (by kernel_rfl) (fun _ _ _ h => h) (Or.inl ⟨by rfl, ?_⟩) hHeld ?_ ?_
          rotate_left
          · rintro w' ⟨s0_, s1_, s2_⟩
            go_simp
            with_reducible rfl
          rotate_left
          · simp only [Act.put, List.setIfInBounds_toArray, List.set_cons_zero, List.set_cons_succ, i64_w, i32_w]
            rfl
          refine pure_ (i := 4) (N := some 84) (v := ?_) (a' := ?_) #[true, true, true, true, true, false, false, false] rfl rfl (by kernel_rfl) (fun _ _ _ h => h) (Or.inl ⟨by rfl, ?_⟩) ?_ ?_
          rotate_left
          · intro w'
            go_simp
            with_reducible rfl
          rotate_left
          · simp only [Act.put, List.setIfInBounds_toArray, List.set_cons_zero, List.set_cons_succ, i64_w, i32_w]
            rfl
          refine take_ (i := 5) (N := some 85) (v := ?_) (a' := ?_) #[true, true, true, true, true, true, false, false] rfl rfl (by kernel_rfl) (fun _ _ _ h => h) (Or.inl ⟨by rfl, ?_⟩) hHeld ?_ ?_
          rotate_left
          · rintro w' ⟨s0_, s1_, s2_⟩
            go_simp
            with_reducible rfl
          rotate_left
          · simp only [Act.put, List.setIfInBounds_toArray, List.set_cons_zero, List.set_cons_succ, i64_w, i32_w]
            rfl
          refine take_ (i := 6) (N := some 86) (v := ?_) (a' := ?_) #[true, true, true, true, true, true, true, false] rfl rfl (by kernel_rfl) (fun _ _ _ h => h) (Or.inl ⟨by rfl, ?_⟩) hHeld ?_ ?_
          rotate_left
          · rintro w' ⟨s0_, s1_, s2_⟩
            go_simp
            with_reducible rfl
          rotate_left
          · simp only [Act.put, List.setIfInBounds_toArray, List.set_cons_zero, List.set_cons_succ, i64_w, i32_w]
            rfl
          refine pure_ (i := 7) (N := some 87) (v := ?_) (a' := ?_) #[true, true, true, true, true, true, true, true] rfl rfl (by kernel_rfl) (fun _ _ _ h => h) (Or.inl ⟨by rfl, ?_⟩) ?_ ?_
          rotate_left
          · intro w'
            go_simp
            with_reducible rfl
          rotate_left
          · simp only [Act.put, List.setIfInBounds_toArray, List.set_cons_zero, List.set_cons_succ, i64_w, i32_w]
            rfl
          refine done_ (by kernel_rfl) ?_
          clear hHeld
          have hcut' : ∃ b, AsI ab om (mset ms c.f0 ⟨b, tk ms c.f0⟩) W4.drew ∧ Chg (fun k => k = om) W4 W4.drew ∧ (tb ms c.f0 = some b ∨ W4.heap.size ≤ b) := ⟨k.b, by
            rw [tk_some HEM.out, mset_self HEM.out]
            exact HI4.out.below (below_drew1 (Below.refl _ _)), Chg.drew _, .inl (tb_some HEM.out)⟩
          have HCUT := Aside0.mk hcut'
          clear hcut'
          go_wp2
          go_meet
          case rel => exact HCUT
        | none =>
          obtain rfl : ob = none := by rw [← hob, tb_none em]
          have HEM := Aside0.mk em
          clear em hob
          refine start_ (n := 8) (S := fun w' => w'.cell? ⟨ab, 0, none⟩ = some (.map (some om)) ∧ w'.cell? ⟨w.heap.size, 0, none⟩ = some (.int .i64 c.f0) ∧ (Instr.lookup 91 (.map (some om)) (.int .i64 c.f0) false).run Try.prog w' = .ok (.map none) w') (ds := ([] : List Nat)) #[false, false, false, false, false, false, false, false] (by kernel_rfl) rfl rfl (HS4.out _ (below_drew1 (Below.refl _ _))) (fun hHeld => ?_)
          refine pure_ (i := 0) (N := some 80) (v := ?_) (a' := ?_) #[true, false, false, false, false, false, false, false] rfl rfl (by kernel_rfl) (fun _ _ _ h => h) (Or.inl ⟨by rfl, ?_⟩) ?_ ?_
          rotate_left
          · intro w'
            go_simp
            with_reducible rfl
          rotate_left
          · simp only [Act.put, List.setIfInBounds_toArray, List.set_cons_zero, List.set_cons_succ, i64_w, i32_w]
            rfl
          refine pure_ (i := 1) (N := some 81) (v := ?_) (a' := ?_) #[true, true, false, false, false, false, false, false] rfl rfl (by kernel_rfl) (fun _ _ _ h => h) (Or.inl ⟨by rfl, ?_⟩) ?_ ?_
          rotate_left
          · intro w'
            go_simp
            with_reducible rfl
          rotate_left
          · simp only [Act.put, List.setIfInBounds_toArray, List.set_cons_zero, List.set_cons_succ, i64_w, i32_w]
            rfl
          refine pure_ (i := 2) (N := some 82) (v := ?_) (a' := ?_) #[true, true, true, false, false, false, false, false] rfl rfl (by kernel_rfl) (fun _ _ _ h => h) (Or.inl ⟨by rfl, ?_⟩) ?_ ?_
          rotate_left
          · intro w'
            go_simp
            with_reducible rfl
          rotate_left
          · simp only [Act.put, List.setIfInBounds_toArray, List.set_cons_zero, List.set_cons_succ, i64_w, i32_w]
            rfl
          refine take_ (i := 3) (N := some 83) (v := ?_) (a' := ?_) #[true, true, true, true, false, false, false, false] rfl rfl (by kernel_rfl) (fun _ _ _ h => h) (Or.inl ⟨by rfl, ?_⟩) hHeld ?_ ?_
          rotate_left
          · rintro w' ⟨s0_, s1_, s2_⟩
            go_simp
            with_reducible rfl
          rotate_left
          · simp only [Act.put, List.setIfInBounds_toArray, List.set_cons_zero, List.set_cons_succ, i64_w, i32_w]
            rfl
          refine pure_ (i := 4) (N := some 84) (v := ?_) (a' := ?_) #[true, true, true, true, true, false, false, false] rfl rfl (by kernel_rfl) (fun _ _ _ h => h) (Or.inl ⟨by rfl, ?_⟩) ?_ ?_
          rotate_left
          · intro w'
            go_simp
            with_reducible rfl
          rotate_left
          · simp only [Act.put, List.setIfInBounds_toArray, List.set_cons_zero, List.set_cons_succ, i64_w, i32_w]
            rfl
          refine take_ (i := 5) (N := some 85) (v := ?_) (a' := ?_) #[true, true, true, true, true, true, false, false] rfl rfl (by kernel_rfl) (fun _ _ _ h => h) (Or.inl ⟨by rfl, ?_⟩) hHeld ?_ ?_
          rotate_left
          · rintro w' ⟨s0_, s1_, s2_⟩
            go_simp
            with_reducible rfl
          rotate_left
          · simp only [Act.put, List.setIfInBounds_toArray, List.set_cons_zero, List.set_cons_succ, i64_w, i32_w]
            rfl
          refine take_ (i := 6) (N := some 86) (v := ?_) (a' := ?_) #[true, true, true, true, true, true, true, false] rfl rfl (by kernel_rfl) (fun _ _ _ h => h) (Or.inl ⟨by rfl, ?_⟩) hHeld ?_ ?_
          rotate_left
          · rintro w' ⟨s0_, s1_, s2_⟩
            go_simp
            with_reducible rfl
          rotate_left
          · simp only [Act.put, List.setIfInBounds_toArray, List.set_cons_zero, List.set_cons_succ, i64_w, i32_w]
            rfl
          refine pure_ (i := 7) (N := some 87) (v := ?_) (a' := ?_) #[true, true, true, true, true, true, true, true] rfl rfl (by kernel_rfl) (fun _ _ _ h => h) (Or.inl ⟨by rfl, ?_⟩) ?_ ?_
          rotate_left
          · intro w'
            go_simp
            with_reducible rfl
          rotate_left
          · simp only [Act.put, List.setIfInBounds_toArray, List.set_cons_zero, List.set_cons_succ, i64_w, i32_w]
            rfl
          refine done_ (by kernel_rfl) ?_
          clear hHeld
          obtain ⟨W5, hW5⟩ : ∃ W5, W4.drew = W5 := ⟨_, rfl⟩
          have hb5 : Below W4.heap.size W4 W5 := by rw [← hW5]; exact below_drew1 (Below.refl _ _)
          rw [hW5]
          clear hW5
          have HB5 := Aside0.mk hb5
          have HI5 := Aside0.mk (HI4.out.below hb5)
          have HS5 := Aside0.mk (show ∀ X, Below W5.heap.size W5 X → (X.cell? ⟨ab, 0, none⟩ = some (.map (some om)) ∧ X.cell? ⟨w.heap.size, 0, none⟩ = some (.int .i64 c.f0)) from fun X hX => ⟨(HI5.out.below hX).cell, ((hb5.trans (hX.mono hb5.size)).block _ (lt_of_blk HK4.out)).trans HK4.out |> fun e => (cells_of_blk e 0).trans rfl⟩)
          clear hb5
          go_upto_region 14 with (fail)
          refine start_ (n := 8) (S := fun w' => w'.cell? ⟨ab, 0, none⟩ = some (.map (some om)) ∧ w'.cell? ⟨w.heap.size, 0, none⟩ = some (.int .i64 c.f0)) (ds := [7]) #[false, false, false, false, false, false, false, false] (by kernel_rfl) rfl rfl (HS5.out _ (below_drew1 (Below.refl _ _))) (fun hHeld => ?_)
          refine pure_ (i := 0) (N := some 88) (v := ?_) (a' := ?_) #[true, false, false, false, false, false, false, false] rfl rfl (by kernel_rfl) (fun _ _ _ h => h) (Or.inl ⟨by rfl, ?_⟩) ?_ ?_
          rotate_left
          · intro w'
            go_simp
            with_reducible rfl
          rotate_left
          · simp only [Act.put, List.setIfInBounds_toArray, List.set_cons_zero, List.set_cons_succ, i64_w, i32_w]
            rfl
          refine pure_ (i := 1) (N := some 89) (v := ?_) (a' := ?_) #[true, true, false, false, false, false, false, false] rfl rfl (by kernel_rfl) (fun _ _ _ h => h) (Or.inl ⟨by rfl, ?_⟩) ?_ ?_
          rotate_left
          · intro w'
            go_simp
            with_reducible rfl
          rotate_left
          · simp only [Act.put, List.setIfInBounds_toArray, List.set_cons_zero, List.set_cons_succ, i64_w, i32_w]
            rfl
          refine pure_ (i := 2) (N := some 90) (v := ?_) (a' := ?_) #[true, true, true, false, false, false, false, false] rfl rfl (by kernel_rfl) (fun _ _ _ h => h) (Or.inl ⟨by rfl, ?_⟩) ?_ ?_
          rotate_left
          · intro w'
            go_simp
            with_reducible rfl
          rotate_left
          · simp only [Act.put, List.setIfInBounds_toArray, List.set_cons_zero, List.set_cons_succ, i64_w, i32_w]
            rfl
          refine take_ (i := 3) (N := some 91) (v := ?_) (a' := ?_) #[true, true, true, true, false, false, false, false] rfl rfl (by kernel_rfl) (fun _ _ _ h => h) (Or.inl ⟨by rfl, ?_⟩) hHeld ?_ ?_
          rotate_left
          · rintro w' ⟨s0_, s1_⟩
            go_simp
            with_reducible rfl
          rotate_left
          · simp only [Act.put, List.setIfInBounds_toArray, List.set_cons_zero, List.set_cons_succ, i64_w, i32_w]
            rfl
          refine pure_ (i := 4) (N := some 92) (v := ?_) (a' := ?_) #[true, true, true, true, true, false, false, false] rfl rfl (by kernel_rfl) (fun _ _ _ h => h) (Or.inl ⟨by rfl, ?_⟩) ?_ ?_
          rotate_left
          · intro w'
            go_simp
            with_reducible rfl
          rotate_left
          · simp only [Act.put, List.setIfInBounds_toArray, List.set_cons_zero, List.set_cons_succ, i64_w, i32_w]
            rfl
          refine take_ (i := 5) (N := some 93) (v := ?_) (a' := ?_) #[true, true, true, true, true, true, false, false] rfl rfl (by kernel_rfl) (fun _ _ _ h => h) (Or.inl ⟨by rfl, ?_⟩) hHeld ?_ ?_
          rotate_left
          · rintro w' ⟨s0_, s1_⟩
            go_simp
            with_reducible rfl
          rotate_left
          · simp only [Act.put, List.setIfInBounds_toArray, List.set_cons_zero, List.set_cons_succ, i64_w, i32_w]
            rfl
          refine one_ (i := 6) (N := some 94) #[true, true, true, true, true, true, true, false] rfl rfl (by kernel_rfl) (by decide) (fun K hK => ?_)
          refine value_ (v := .map (some W5.drew.heap.size)) (w1 := W5.drew.alloc (.map #[] 0)) (by rfl) rfl ?_ ?_
          · go_simp
          refine hK.out _ _ (HS5.out _ (below_alloc (below_drew1 (Below.refl _ _)) _)) (fun hHeld => ?_)
          clear hK K
          refine norm_ (a' := ?_) ?_ ?_
          rotate_left
          · show Act.put _ (some 94) _ = _
            simp only [Act.put, List.setIfInBounds_toArray, List.set_cons_zero, List.set_cons_succ, i64_w, i32_w]
            rfl
          refine last_ (i := 7) (N := none) #[true, true, true, true, true, true, true, true] rfl rfl (by kernel_rfl) (by decide) (fun K hK => ?_)
          obtain ⟨W6, hW6⟩ : ∃ W6, W5.drew.alloc (.map #[] 0) = W6 := ⟨_, rfl⟩
          have hb6 : Below W5.heap.size W5 W6 := by rw [← hW6]; exact below_alloc (below_drew1 (Below.refl _ _)) _
          have hm6 : MapIs (Value.int .i64) W6 W5.heap.size [] := by rw [← hW6]; exact MapIs.new W5.drew
          have hI6 := HI5.out.below hb6
          obtain ⟨W7, hrun, hmap7, hg7⟩ := hI6.2.1.update (keyLaw_int Try.underlying3) Try.underlying91 c.f0 (.map (some W5.heap.size))
          have hrun' : (Instr.mapUpdate 91 (.map (some om)) (.int .i64 c.f0) (.map (some W5.heap.size))).run Try.prog W6 = .ok () W7 := hrun
          have hne : W5.heap.size ≠ om := fun e => by have := HI5.out.2.1.lt; omega
          have hc57 : Chg (fun j => j = om) W5 W7 := (Chg.of_new hb6).trans (Chg.of_grown (S := fun j => j = om) hg7 (fun k e => (Option.some.inj e).symm)) (fun _ _ e => e)
          have HI7 := Aside0.mk (HI5.out.fresh HEM.out (Nat.le_refl _) (hm6.move (hg7.block _ hm6.lt (fun e => hne (Option.some.inj e)))) hmap7 hc57)
          have HC7 := Aside0.mk ((Chg.of_new HB5.out).trans hc57 (fun _ _ e => e))
          have hs5 := HB5.out.size
          clear hrun hmap7 hg7 hc57 hI6 hm6 hb6 hne
          rw [hW6]
          clear hW6
          refine skip_ (w1 := W7) (by rfl) rfl ?_ ?_
          · go_simp
          clear hrun'
          refine hK.out _ _ (done_ (by kernel_rfl) ?_)
          clear hK K hHeld
          have hcut' : ∃ b, AsI ab om (mset ms c.f0 ⟨b, tk ms c.f0⟩) W7 ∧ Chg (fun k => k = om) W4 W7 ∧ (tb ms c.f0 = some b ∨ W4.heap.size ≤ b) := ⟨W5.heap.size, by
            rw [tk_none HEM.out]
            exact HI7.out, HC7.out, .inr hs5⟩
          have HCUT := Aside0.mk hcut'
          clear hcut' hs5
          go_wp2
          go_meet
          case rel => exact HCUT
      case rest =>
        obtain ⟨b, hI5, hC5, hbb⟩ := hcut.out
        have hk5 := hC5.at HK4.out (fun e => HI4.out.2.1.cells HK4.out e.symm)
        have hc05 : Chg (fun k => k = om) w wc := (Chg.of_new HBW.out).trans hC5 (fun _ _ e => e)
        have HA5 := Aside0.mk (HC.out _ hc05)
        have HI5 := Aside0.mk hI5
        have HC5 := Aside0.mk hC5
        have HC05 := Aside0.mk hc05
        have HBB := Aside0.mk hbb
        have HK5 := Aside0.mk hk5
        have HCLO := Aside0.mk (show slices_Clone_int_int.f c.f3 = some c.f3 by unfold slices_Clone_int_int.f; rw [if_pos (by simpa using HCL.out)]; rfl)
        have z3 : wc.cell? ⟨w.heap.size, 3, none⟩ = some (.slice A c.f3.length ca) := (cells_of_blk hk5 3).trans rfl
        clear hI5 hC5 hbb hk5 hc05 hcut HS4 HC
        go_upto_region 16 with (go_at_call 47; refine (slices_Clone_int_int.calls A ca c.f3 c.f3 _ HA5.out HCA.out HCLO.out).mono ?_; rintro e w6 ⟨v6, rfl, hR6, hb6⟩; obtain ⟨A6, c6, hv6⟩ := Kd.R_slice hR6; subst hv6; have hk6 := (hb6.block _ (lt_of_blk HK5.out)).trans HK5.out; have HK6 := Aside0.mk hk6; have HR6 := Aside0.mk hR6; have HB6 := Aside0.mk hb6; have hf6 := free_of_blk hk6 3; have hx6 := (cells_of_blk hk6 3).trans (rfl : _ = some (Value.slice A c.f3.length ca)); clear hR6 hb6 hk6)
        obtain ⟨W7, hW7⟩ : ∃ W7, w6.setCell ⟨w.heap.size, 3, none⟩ (.slice A6 c.f3.length c6) = W7 := ⟨_, rfl⟩
        have hc67 : Chg (fun j => j = w.heap.size) w6 W7 := by rw [← hW7]; exact Chg.set _ _ _ rfl
        have hk7 : W7.heap[w.heap.size]? = some (.cells #[.int .i64 c.f0, .int .i64 c.f1, .bool c.f2, .slice A6 c.f3.length c6] 51 (0, 0)) := by rw [← hW7]; exact (hb_set HK6.out 3 _).trans rfl
        have hO : ∀ j, j = w.heap.size → j < w6.heap.size → Other w6 j := fun j e _ => e ▸ other_cells HK6.out (by decide)
        have hI6 := HI5.out.below HB6.out
        have hI7 := hI6.step hc67 (fun e => by have := lt_of_blk HI.out.1; omega) (fun e => by have := HI.out.2.1.lt; omega) (fun p hp e => (hI6.2.2.1 p hp).cells HK6.out e) hO
        have hr7 : CkOK W7 ⟨A6, c6, c⟩ := CkOK.chg (r := ⟨A6, c6, c⟩) (Kd.R_lower (R_int_own HR6.out) (Nat.zero_le _)) hc67 hO
        rw [hW7]
        clear hW7 hx6 hf6 hI6 hO
        have HI7 := Aside0.mk hI7
        have HR7 := Aside0.mk hr7
        have HC7 := Aside0.mk (HC05.out.trans ((Chg.of_new (S := fun j => j = w.heap.size) HB6.out).trans hc67 (fun _ _ e => e)) (fun j hj e => by omega))
        clear hI7 hr7 hc67
        have HS7 := Aside0.mk (show ∀ X, Below W7.heap.size W7 X → (X.cell? ⟨ab, 0, none⟩ = some (.map (some om)) ∧ X.cell? ⟨w.heap.size, 0, none⟩ = some (.int .i64 c.f0) ∧ X.cell? ⟨w.heap.size, 1, none⟩ = some (.int .i64 c.f1) ∧ X.cell? ⟨w.heap.size, 2, none⟩ = some (.bool c.f2) ∧ X.cell? ⟨w.heap.size, 3, none⟩ = some (.slice A6 c.f3.length c6) ∧ (Instr.lookup 91 (.map (some om)) (.int .i64 c.f0) false).run Try.prog X = .ok (.map (some b)) X) from fun X hX => by
          have hk := (hX.block _ (lt_of_blk hk7)).trans hk7
          have hIX := HI7.out.below hX
          refine ⟨hIX.cell, (cells_of_blk hk 0).trans rfl, (cells_of_blk hk 1).trans rfl, (cells_of_blk hk 2).trans rfl, (cells_of_blk hk 3).trans rfl, ?_⟩
          have := hIX.outer c.f0
          rw [tb_mset] at this
          exact this)
        clear hk7
        refine start_ (n := 11) (S := fun w' => w'.cell? ⟨ab, 0, none⟩ = some (.map (some om)) ∧ w'.cell? ⟨w.heap.size, 0, none⟩ = some (.int .i64 c.f0) ∧ w'.cell? ⟨w.heap.size, 1, none⟩ = some (.int .i64 c.f1) ∧ w'.cell? ⟨w.heap.size, 2, none⟩ = some (.bool c.f2) ∧ w'.cell? ⟨w.heap.size, 3, none⟩ = some (.slice A6 c.f3.length c6) ∧ (Instr.lookup 91 (.map (some om)) (.int .i64 c.f0) false).run Try.prog w' = .ok (.map (some b)) w') (ds := [10]) #[false, false, false, false, false, false, false, false, false, false, false] (by kernel_rfl) rfl rfl (HS7.out _ (below_drew1 (Below.refl _ _))) (fun hHeld => ?_)
        refine pure_ (i := 0) (N := some 99) (v := ?_) (a' := ?_) #[true, false, false, false, false, false, false, false, false, false, false] rfl rfl (by kernel_rfl) (fun _ _ _ h => h) (Or.inl ⟨by rfl, ?_⟩) ?_ ?_
        rotate_left
        · intro w'
          go_simp
          with_reducible rfl
        rotate_left
        · simp only [Act.put, List.setIfInBounds_toArray, List.set_cons_zero, List.set_cons_succ, i64_w, i32_w]
          rfl
        refine pure_ (i := 1) (N := some 100) (v := ?_) (a' := ?_) #[true, true, false, false, false, false, false, false, false, false, false] rfl rfl (by kernel_rfl) (fun _ _ _ h => h) (Or.inl ⟨by rfl, ?_⟩) ?_ ?_
        rotate_left
        · intro w'
          go_simp
          with_reducible rfl
        rotate_left
        · simp only [Act.put, List.setIfInBounds_toArray, List.set_cons_zero, List.set_cons_succ, i64_w, i32_w]
          rfl
        refine pure_ (i := 2) (N := some 101) (v := ?_) (a' := ?_) #[true, true, true, false, false, false, false, false, false, false, false] rfl rfl (by kernel_rfl) (fun _ _ _ h => h) (Or.inl ⟨by rfl, ?_⟩) ?_ ?_
        rotate_left
        · intro w'
          go_simp
          with_reducible rfl
        rotate_left
        · simp only [Act.put, List.setIfInBounds_toArray, List.set_cons_zero, List.set_cons_succ, i64_w, i32_w]
          rfl
        refine take_ (i := 3) (N := some 102) (v := ?_) (a' := ?_) #[true, true, true, true, false, false, false, false, false, false, false] rfl rfl (by kernel_rfl) (fun _ _ _ h => h) (Or.inl ⟨by rfl, ?_⟩) hHeld ?_ ?_
        rotate_left
        · rintro w' ⟨s0_, s1_, s2_, s3_, s4_, s5_⟩
          go_simp
          with_reducible rfl
        rotate_left
        · simp only [Act.put, List.setIfInBounds_toArray, List.set_cons_zero, List.set_cons_succ, i64_w, i32_w]
          rfl
        refine pure_ (i := 4) (N := some 103) (v := ?_) (a' := ?_) #[true, true, true, true, true, false, false, false, false, false, false] rfl rfl (by kernel_rfl) (fun _ _ _ h => h) (Or.inl ⟨by rfl, ?_⟩) ?_ ?_
        rotate_left
        · intro w'
          go_simp
          with_reducible rfl
        rotate_left
        · simp only [Act.put, List.setIfInBounds_toArray, List.set_cons_zero, List.set_cons_succ, i64_w, i32_w]
          rfl
        refine take_ (i := 5) (N := some 104) (v := ?_) (a' := ?_) #[true, true, true, true, true, true, false, false, false, false, false] rfl rfl (by kernel_rfl) (fun _ _ _ h => h) (Or.inl ⟨by rfl, ?_⟩) hHeld ?_ ?_
        rotate_left
        · rintro w' ⟨s0_, s1_, s2_, s3_, s4_, s5_⟩
          go_simp
          with_reducible rfl
        rotate_left
        · simp only [Act.put, List.setIfInBounds_toArray, List.set_cons_zero, List.set_cons_succ, i64_w, i32_w]
          rfl
        refine take_ (i := 6) (N := some 105) (v := ?_) (a' := ?_) #[true, true, true, true, true, true, true, false, false, false, false] rfl rfl (by kernel_rfl) (fun _ _ _ h => h) (Or.inl ⟨by rfl, ?_⟩) hHeld ?_ ?_
        rotate_left
        · rintro w' ⟨s0_, s1_, s2_, s3_, s4_, s5_⟩
          go_simp
          with_reducible rfl
        rotate_left
        · simp only [Act.put, List.setIfInBounds_toArray, List.set_cons_zero, List.set_cons_succ, i64_w, i32_w]
          rfl
        refine pure_ (i := 7) (N := some 106) (v := ?_) (a' := ?_) #[true, true, true, true, true, true, true, true, false, false, false] rfl rfl (by kernel_rfl) (fun _ _ _ h => h) (Or.inl ⟨by rfl, ?_⟩) ?_ ?_
        rotate_left
        · intro w'
          go_simp
          with_reducible rfl
        rotate_left
        · simp only [Act.put, List.setIfInBounds_toArray, List.set_cons_zero, List.set_cons_succ, i64_w, i32_w]
          rfl
        refine take_ (i := 8) (N := some 107) (v := ?_) (a' := ?_) #[true, true, true, true, true, true, true, true, true, false, false] rfl rfl (by kernel_rfl) (fun _ _ _ h => h) (Or.inl ⟨by rfl, ?_⟩) hHeld ?_ ?_
        rotate_left
        · rintro w' ⟨s0_, s1_, s2_, s3_, s4_, s5_⟩
          go_simp
          with_reducible rfl
        rotate_left
        · simp only [Act.put, List.setIfInBounds_toArray, List.set_cons_zero, List.set_cons_succ, i64_w, i32_w]
          rfl
        refine take_ (i := 9) (N := some 108) (v := ?_) (a' := ?_) #[true, true, true, true, true, true, true, true, true, true, false] rfl rfl (by kernel_rfl) (fun _ _ _ h => h) (Or.inl ⟨by rfl, ?_⟩) hHeld ?_ ?_
        rotate_left
        · rintro w' ⟨s0_, s1_, s2_, s3_, s4_, s5_⟩
          go_simp
          with_reducible rfl
        rotate_left
        · simp only [Act.put, List.setIfInBounds_toArray, List.set_cons_zero, List.set_cons_succ, i64_w, i32_w]
          rfl
        refine last_ (i := 10) (N := none) #[true, true, true, true, true, true, true, true, true, true, true] rfl rfl (by kernel_rfl) (by decide) (fun K hK => ?_)
        have hg := mget_mset_same ms c.f0 (⟨b, tk ms c.f0⟩ : Tk)
        have hI8 := HI7.out.below (below_drew1 (Below.refl W7.heap.size W7))
        obtain ⟨W9, hrun, hmap9, hg9⟩ := (hI8.2.2.1 _ (mget_mem hg)).update (keyLaw_int Try.underlying3) Try.underlying95 c.f1 (Ck.enc ⟨A6, c6, c⟩)
        have hrun' : (Instr.mapUpdate 95 (.map (some b)) (.int .i64 c.f1) (.agg #[.int .i64 c.f0, .int .i64 c.f1, .bool c.f2, .slice A6 c.f3.length c6])).run Try.prog W7.drew = .ok () W9 := hrun
        have hm9 : MapIs (Value.int .i64) W9 b (encL (mset (tk ms c.f0) c.f1 ⟨A6, c6, c⟩)) := by
          rw [encL, mset_map Ck.enc]
          exact hmap9
        have hI9 := hI8.put hg hm9 hg9 (HR7.out.below (below_drew1 (Below.refl _ _)))
        rw [mset_mset] at hI9
        have HI9 := Aside0.mk hI9
        have HC9 := Aside0.mk (show Chg (fun k => k = om ∨ some k = tb ms c.f0) w W9 from
          (HC7.out.mono (fun _ _ e => .inl e)).trans ((Chg.drew (S := fun j => j = b) W7).trans (Chg.of_grown hg9 (S := fun j => j = b) (fun k e => (Option.some.inj e).symm)) (fun _ _ e => e)) (fun j hj e => by
            rcases HBB.out with h | h
            · exact .inr (by rw [h, e])
            · have := HBW.out.size
              exact absurd hj (by omega)))
        clear hrun hmap9 hm9 hg9 hI9 hg hI8
        refine skip_ (w1 := W9) (by rfl) rfl ?_ ?_
        · go_simp
        clear hrun'
        refine hK.out _ _ (done_ (by kernel_rfl) ?_)
        clear hK K hHeld
        go_wp2
        refine bodyPost_ret (results_2 rfl _ _ _) rfl ?_
        exact .inr ⟨HG.out.1, HG.out.2.1, HG.out.2.2.1, .inr ⟨HG.out.2.2.2, .inr ⟨HN.out, f, g, HB.out, .inr ⟨HNC.out, rfl, b, ⟨A6, c6, c⟩, rfl, HI9.out, HC9.out, HBB.out.imp_right (fun h => Nat.le_trans HBW.out.size h)⟩⟩⟩⟩
end Go.Proofs.Ytogpjenmfgpfiaa.QProgressAssembler
