/-
  ProgressAssembler: the reference's AddChunk.
-/
import Derived.Test.YtogpjenmfgpfiaaHandPa5
namespace Go.Proofs.Ytogpjenmfgpfiaa.QProgressAssembler
open Go.RowKit Go.Proofs.YtogpjenmfgpfiaaW.PrintWords Go.Proofs.YtogpjenmfgpfiaaW.PrintLast Go.Proofs.YtogpjenmfgpfiaaW.PrintMore Go.Proofs.Ytogpjenmfgpfiaa.Hand
attribute [local go_sem] max2_int min2_int max_two min_two max_three min_three max_four min_four
set_option linter.unusedVariables false
set_option linter.unusedSimpArgs false
/-- What the reference's scan of the stored chunks says: 0 new, 1 the same, 2 a conflict. -/
def scanA : List S51 → S51 → Nat
  | [], _ => 0
  | s :: t, c => if s.f0 = c.f0 then (if s.f1 = c.f1 ∧ s.f2 = c.f2 ∧ s.f3 = c.f3 then 1 else if s.f1 = c.f1 ∨ (s.f2 = true ∧ s.f1 < c.f1) ∨ (c.f2 = true ∧ c.f1 < s.f1) then 2 else scanA t c) else scanA t c
def RefR (st : List S51) (c : S51) (st' : List S51) (b : Bool) (n : Int) : Prop :=
  ((c.f0 < 0 ∨ c.f1 < 0 ∨ 1000 ≤ c.f1) ∧ st' = st ∧ b = false ∧ n = 1) ∨
  (0 ≤ c.f0 ∧ 0 ≤ c.f1 ∧ c.f1 < 1000 ∧ ((1000 < c.f3.length ∧ st' = st ∧ b = false ∧ n = 2) ∨
    (c.f3.length ≤ 1000 ∧ ((scanA st c = 1 ∧ st' = st ∧ b = false ∧ n = 0) ∨ (scanA st c = 2 ∧ st' = st ∧ b = false ∧ n = 10) ∨ (scanA st c = 0 ∧ st' = st ++ [c] ∧ b = true ∧ n = 0)))))
def AddC (w : World) (P0 : Nat → Prop) (st : List S51) (c : S51) (e : Ending) (w' : World) : Prop :=
  ∃ v st' b n, e = .returned (.tuple #[v, .bool b, .int .i64 n]) ∧ Kd.V k51 51 w' w'.heap.size (fun k => P0 k ∨ w.heap.size ≤ k) v st' ∧ Below w.heap.size w w' ∧ RefR st c st' b n
theorem one51 {W : World} {k : Nat} {x : S51} {A : Option Addr} {c : Nat} (hk : W.heap[k]? = some (.cells #[.int .i64 x.f0, .int .i64 x.f1, .bool x.f2, .slice A x.f3.length c] 51 (0, 0))) (hl : x.f3.length ≤ c) (hc : Kd.C (Kd.int .i64) W A x.f3.length x.f3) :
    Kd.C k51 W (some ⟨k, 0, none⟩) ([x] : List S51).length [x] :=
  ⟨rfl, by simp, fun _ => ⟨_, rfl, fun j p hp => by
    cases j with
    | zero =>
      obtain rfl := Option.some.inj hp
      refine ⟨_, rfl, k51_mk W _ hl hc, fun i u hu => ?_⟩
      rw [show ((⟨k, 0, none⟩ : Addr).add (0 * k51.sz + i)) = ⟨k, i, none⟩ by rw [add_plain]; simp]
      rw [cells_of_blk hk i]
      simpa using hu
    | succ j => simp at hp⟩⟩
theorem eqC_one (s c : S51) (h0 : s.f0 = c.f0) (h1 : s.f1 = c.f1) (hl : s.f3.length ≤ 9223372036854775807) : ∃ k, glossatorref3_EqualChunks.f k [s] [c] = some (decide (s.f2 = c.f2 ∧ s.f3 = c.f3)) := by
  obtain ⟨kk, hkk⟩ := eqR_f s.f3 c.f3 hl
  have hk2 := glossatorref3_Equal_int.mono _ _ _ _ hkk
  refine ⟨kk + 2, ?_⟩
  have w1 : wrap64 (1 : Int) = 1 := by unfold wrap64; omega
  by_cases h2 : s.f2 = c.f2
  · by_cases h3 : s.f3 = c.f3
    · simp [glossatorref3_EqualChunks.f, glossatorref3_EqualChunks.l0, rd_T51, h0, h1, h2, hk2, w1]
      simp [← h3] at hk2
      simp [h3, hk2]
    · simp [glossatorref3_EqualChunks.f, glossatorref3_EqualChunks.l0, rd_T51, h0, h1, h2, hk2, h3]
  · simp [glossatorref3_EqualChunks.f, glossatorref3_EqualChunks.l0, rd_T51, h0, h1, h2]
theorem results_3 {fn : Func} {s t u : Tmp} (h : fn.results = #[.tmp s, .tmp t, .tmp u]) (tmps : Array Value) (P : Program) (w : World) :
    (results fn tmps).run P w = .ok (.tuple #[tmps.getD s undef, tmps.getD t undef, tmps.getD u undef]) w := by
  simp [results, h, Sem.run_pure]
set_option maxRecDepth 100000 in
set_option maxHeartbeats 16000000 in
theorem addC_calls {w : World} {P0 : Nat → Prop} (A0 : Option Addr) (c0 : Nat) (st : List S51) (c : S51) (A : Option Addr) (ca : Nat) (hs0 : Kd.V k51 51 w w.heap.size P0 (.slice A0 st.length c0) st) (hC : Kd.F (Kd.int .i64) w P0 A c.f3.length c.f3) (hca : c.f3.length ≤ ca) (hst : st.length < 1000) (hln : ∀ s ∈ st, s.f3.length ≤ 1000) :
    Calls Try.prog 20 #[.slice A0 st.length c0, .agg #[.int .i64 c.f0, .int .i64 c.f1, .bool c.f2, .slice A c.f3.length ca]] w (AddC w P0 st c) := by
  have HO := Aside0.mk hs0
  have HC := Aside0.mk hC
  have HCA := Aside0.mk hca
  have HST := Aside0.mk hst
  have HLN := Aside0.mk hln
  have hu51 := Try.underlying51
  clear hs0 hC hca hst hln
  go_enter Try.func20, Try.ntmps20
  have HV := Aside0.mk (show ∀ X, Below w.heap.size w X → Kd.V k51 51 X X.heap.size (fun k => P0 k ∨ w.heap.size ≤ k) (.slice A0 st.length c0) st from fun X hX => Kd.V_mono (Kd.V_below HO.out hX) (fun _ h => .inl h))
  by_cases g0 : c.f0 < 0
  · have b0 : decide (c.f0 < 0) = true := decide_eq_true g0
    go_wp2
    refine bodyPost_ret (results_3 rfl _ _ _) rfl ?_
    have hb := below_alloc (Below.refl w.heap.size w) (.cells #[.int .i64 c.f0, .int .i64 c.f1, .bool c.f2, .slice A c.f3.length ca] 51)
    exact ⟨_, st, false, 1, rfl, HV.out _ hb, hb, .inl ⟨.inl (by omega), rfl, rfl, rfl⟩⟩
  have b0 : decide (c.f0 < 0) = false := decide_eq_false g0
  by_cases g1 : c.f1 < 0
  · have b1 : decide (c.f1 < 0) = true := decide_eq_true g1
    go_wp2
    refine bodyPost_ret (results_3 rfl _ _ _) rfl ?_
    have hb := below_alloc (Below.refl w.heap.size w) (.cells #[.int .i64 c.f0, .int .i64 c.f1, .bool c.f2, .slice A c.f3.length ca] 51)
    exact ⟨_, st, false, 1, rfl, HV.out _ hb, hb, .inl ⟨.inr (.inl (by omega)), rfl, rfl, rfl⟩⟩
  have b1 : decide (c.f1 < 0) = false := decide_eq_false g1
  by_cases g2 : c.f1 ≥ 1000
  · have b2 : decide (c.f1 ≥ 1000) = true := decide_eq_true g2
    go_wp2
    refine bodyPost_ret (results_3 rfl _ _ _) rfl ?_
    have hb := below_alloc (Below.refl w.heap.size w) (.cells #[.int .i64 c.f0, .int .i64 c.f1, .bool c.f2, .slice A c.f3.length ca] 51)
    exact ⟨_, st, false, 1, rfl, HV.out _ hb, hb, .inl ⟨.inr (.inr (by omega)), rfl, rfl, rfl⟩⟩
  have b2 : decide (c.f1 ≥ 1000) = false := decide_eq_false g2
  by_cases g3 : (c.f3.length : Int) > 1000
  · have b3 : decide ((c.f3.length : Int) > 1000) = true := decide_eq_true g3
    have b3' : decide (c.f3.length > 1000) = true := decide_eq_true (by omega)
    go_wp2
    refine bodyPost_ret (results_3 rfl _ _ _) rfl ?_
    have hb := below_alloc (Below.refl w.heap.size w) (.cells #[.int .i64 c.f0, .int .i64 c.f1, .bool c.f2, .slice A c.f3.length ca] 51)
    exact ⟨_, st, false, 2, rfl, HV.out _ hb, hb, .inr ⟨by omega, by omega, by omega, .inl ⟨by omega, rfl, rfl, rfl⟩⟩⟩
  have b3 : decide ((c.f3.length : Int) > 1000) = false := decide_eq_false g3
  have b3' : decide (c.f3.length > 1000) = false := decide_eq_false (by omega)
  have HG := Aside0.mk (show 0 ≤ c.f0 ∧ 0 ≤ c.f1 ∧ c.f1 < 1000 ∧ c.f3.length ≤ 1000 from ⟨by omega, by omega, by omega, by omega⟩)
  clear g0 g1 g2 g3
  go_upto_region 5 with (fail)
  clear b0 b1 b2 b3 b3'
  obtain ⟨W1, hW1⟩ : ∃ W1, w.alloc (.cells #[.int .i64 c.f0, .int .i64 c.f1, .bool c.f2, .slice A c.f3.length ca] 51) = W1 := ⟨_, rfl⟩
  have hb1 : Below w.heap.size w W1 := by rw [← hW1]; exact below_alloc (Below.refl _ _) _
  have hk1 : W1.heap[w.heap.size]? = some (.cells #[.int .i64 c.f0, .int .i64 c.f1, .bool c.f2, .slice A c.f3.length ca] 51 (0, 0)) := by rw [← hW1]; exact hb_new _ _
  rw [hW1]
  clear hW1
  have HB1 := Aside0.mk hb1
  have HK1 := Aside0.mk hk1
  clear hb1 hk1
  go_wp2
  go_loopg [30] st.length (fun kq v30 W => ∃ i : Nat, v30 = .int .i64 (i : Int) ∧ kq + i = st.length ∧ Aside0 (Below W1.heap.size W1 W) ∧ Aside0 (scanA (st.drop i) c = scanA st c))
  case atStart => exact ⟨0, rfl, by omega, ⟨Below.refl _ _⟩, ⟨rfl⟩⟩
  case round =>
    obtain ⟨i, rfl, hi, hB, hS⟩ := hrel
    have HBW := Aside0.mk (HB1.out.trans (hB.out.mono HB1.out.size))
    have hkr := (hB.out.block _ (lt_of_blk HK1.out)).trans HK1.out
    have HKR := Aside0.mk hkr
    have y0 : wr.cell? ⟨w.heap.size, 0, none⟩ = some (.int .i64 c.f0) := (cells_of_blk hkr 0).trans rfl
    have y1 : wr.cell? ⟨w.heap.size, 1, none⟩ = some (.int .i64 c.f1) := (cells_of_blk hkr 1).trans rfl
    have y2 : wr.cell? ⟨w.heap.size, 2, none⟩ = some (.bool c.f2) := (cells_of_blk hkr 2).trans rfl
    have y3 : wr.cell? ⟨w.heap.size, 3, none⟩ = some (.slice A c.f3.length ca) := (cells_of_blk hkr 3).trans rfl
    clear hkr
    cases gk with
    | zero =>
      have hil : i = st.length := by omega
      have HIL := Aside0.mk hil
      have hb : decide ((i : Int) < (st.length : Int)) = false := decide_eq_false (by omega)
      have hb' : decide (i < st.length) = false := decide_eq_false (by omega)
      clear hi hil
      go_upto_region 14 with (fail)
      have HS := Aside0.mk (show ∀ X : World, (X.heap[w.heap.size]? = some (.cells #[.int .i64 c.f0, .int .i64 c.f1, .bool c.f2, .slice A c.f3.length ca] 51 (0, 0))) → (X.cell? ⟨w.heap.size, 0, none⟩ = some (.int .i64 c.f0) ∧ X.cell? ⟨w.heap.size, 1, none⟩ = some (.int .i64 c.f1) ∧ X.cell? ⟨w.heap.size, 2, none⟩ = some (.bool c.f2) ∧ X.cell? ⟨w.heap.size, 3, none⟩ = some (.slice A c.f3.length ca)) from fun X e2 => ⟨(cells_of_blk e2 0).trans rfl, (cells_of_blk e2 1).trans rfl, (cells_of_blk e2 2).trans rfl, (cells_of_blk e2 3).trans rfl⟩)
      have HSB := Aside0.mk (show ∀ X, Below wr.heap.size wr X → X.heap[w.heap.size]? = some (.cells #[.int .i64 c.f0, .int .i64 c.f1, .bool c.f2, .slice A c.f3.length ca] 51 (0, 0)) from fun X hX => (hX.block _ (lt_of_blk HKR.out)).trans HKR.out)
      have HCL := Aside0.mk (show api_QChunk.f st = some st by unfold api_QChunk.f; rw [if_pos (by have := HST.out; simp; omega)]; rfl)
      have HSC := Aside0.mk (show scanA st c = 0 by rw [← hS.out, HIL.out, List.drop_length]; rfl)
      have HWS := Aside0.mk (lt_of_blk HKR.out)
      clear y0 y1 y2 y3 hb hb'
      refine start_ (n := 8) (S := fun w' => w'.cell? ⟨w.heap.size, 0, none⟩ = some (.int .i64 c.f0) ∧ w'.cell? ⟨w.heap.size, 1, none⟩ = some (.int .i64 c.f1) ∧ w'.cell? ⟨w.heap.size, 2, none⟩ = some (.bool c.f2) ∧ w'.cell? ⟨w.heap.size, 3, none⟩ = some (.slice A c.f3.length ca)) (ds := ([] : List Nat)) #[false, false, false, false, false, false, false, false] (by kernel_rfl) rfl rfl (HS.out _ (HSB.out _ (below_drew1 (Below.refl _ _)))) (fun hHeld => ?_)
      refine pure_ (i := 0) (N := some 81) (v := ?_) (a' := ?_) #[true, false, false, false, false, false, false, false] rfl rfl (by kernel_rfl) (fun _ _ _ h => h) (Or.inl ⟨by rfl, ?_⟩) ?_ ?_
      rotate_left
      · intro w'
        go_simp
        with_reducible rfl
      rotate_left
      · simp only [Act.put, List.setIfInBounds_toArray, List.set_cons_zero, List.set_cons_succ, i64_w, i32_w]
        rfl
      refine take_ (i := 2) (N := some 83) (v := ?_) (a' := ?_) #[true, false, true, false, false, false, false, false] rfl rfl (by kernel_rfl) (fun _ _ _ h => h) (Or.inl ⟨by rfl, ?_⟩) hHeld ?_ ?_
      rotate_left
      · rintro w' ⟨s0_, s1_, s2_, s3_⟩
        go_simp
        with_reducible rfl
      rotate_left
      · simp only [Act.put, List.setIfInBounds_toArray, List.set_cons_zero, List.set_cons_succ, i64_w, i32_w]
        rfl
      refine join_ (σ := Option Addr × Nat × Nat) 4 #[true, true, true, true, false, false, false, false] (fun s => [(82, .slice s.1 st.length s.2.1), (84, .slice (some ⟨s.2.2, 0, none⟩) 1 1)]) (fun s w' => Kd.N k51 51 w' wr.heap.size (fun k => P0 k ∨ w.heap.size ≤ k) (.slice s.1 st.length s.2.1) st ∧ w'.heap[s.2.2]? = some (.cells #[.int .i64 c.f0, .int .i64 c.f1, .bool c.f2, .slice A c.f3.length ca] 51 (0, 0)) ∧ Below wr.heap.size wr w' ∧ (Value.slice s.1 st.length s.2.1).ownBlock ≠ some s.2.2 ∧ wr.heap.size ≤ s.2.2) ?_ (fun hcont => ?_)
      · rintro ⟨A1, c1, kb⟩ w9 ⟨hN, hkb, hb9, hne, hkl⟩
        refine norm_ (a' := ?_) ?_ ?_
        rotate_left
        · show putAll _ _ = _
          simp only [putAll, Act.put, List.setIfInBounds_toArray, List.set_cons_zero, List.set_cons_succ, i64_w, i32_w]
          rfl
        have HN := Aside0.mk hN
        have HKB := Aside0.mk hkb
        have HB9 := Aside0.mk hb9
        have HNE := Aside0.mk hne
        have HKL := Aside0.mk hkl
        have HBW9 := Aside0.mk (HBW.out.trans (hb9.mono HBW.out.size))
        have hF : Kd.F k51 w9 (fun k => k = kb ∨ (P0 k ∧ k < w.heap.size)) (some ⟨kb, 0, none⟩) ([c] : List S51).length [c] := fun W' hW => one51 (A := A) (c := ca) ((hW kb (.inl rfl) (lt_of_blk HKB.out)).trans HKB.out) HCA.out (HC.out W' (fun k hk hlt => (hW k (.inr ⟨hk, hlt⟩) (Nat.lt_of_lt_of_le hlt HBW9.out.size)).trans (HBW9.out.block k hlt)))
        have HF := Aside0.mk hF
        have HLIM := Aside0.mk (show (st.length + ([c] : List S51).length) * 48 ≤ 140737488355328 by have := HST.out; simp; omega)
        clear hN hkb hb9 hne hkl hF
        refine one_ (i := 4) (N := some 85) #[true, true, true, true, true, false, false, false] rfl rfl (by kernel_rfl) (by decide) (fun K hK => ?_)
        refine Kd.N_append_rows_step k51 (w0 := w) w.heap.size (by rfl) (.tmp 82) (.tmp 84) 47 51 (.agg #[.int .i64 0, .int .i64 0, .bool false, .slice none 0 0]) 48 rfl Try.underlying47 info51 rfl (by decide) (by decide) (.slice A1 st.length c1) st [c] (some ⟨kb, 0, none⟩) 1 1 (fun k => P0 k ∨ w.heap.size ≤ k) (fun k => k = kb ∨ (P0 k ∧ k < w.heap.size)) rfl rfl ?_ ?_ ?_ ?_ ?_ ?_ ?_ ?_
        · exact Kd.N_lower HN.out (Nat.le_of_lt HWS.out)
        · exact HF.out
        · rintro k (rfl | h)
          · exact ⟨.inr (Nat.le_trans (Nat.le_of_lt HWS.out) HKL.out), fun e => HNE.out e.symm⟩
          · exact ⟨.inl h.1, fun e => absurd (Nat.lt_trans h.2 HWS.out) (Nat.not_lt.2 (Kd.N_base HN.out _ e.symm))⟩
        · exact fun k hk => .inr (by have := HBW9.out.size; omega)
        · exact HBW9.out
        · exact HBW9.out.size
        · exact HLIM.out
        intro v1 w1 hN1 hb1 hg1 _
        have hbl : w1.heap[w.heap.size]? = some (.cells #[.int .i64 c.f0, .int .i64 c.f1, .bool c.f2, .slice A c.f3.length ca] 51 (0, 0)) := (hg1.block _ (Nat.lt_of_lt_of_le HWS.out HB9.out.size) (fun e => absurd HWS.out (Nat.not_lt.2 (Kd.N_base HN.out _ e.symm)))).trans (HSB.out _ HB9.out)
        have HN1 := Aside0.mk hN1
        have HBW1 := Aside0.mk hb1
        clear hN1 hb1 hg1
        refine hK.out _ _ (HS.out _ hbl) (fun hHeld => ?_)
        clear hK K hbl
        refine norm_ (a' := ?_) ?_ ?_
        rotate_left
        · show Act.put _ (some 85) _ = _
          simp only [Act.put, List.setIfInBounds_toArray, List.set_cons_zero, List.set_cons_succ, i64_w, i32_w]
          rfl
        refine pure_ (i := 5) (N := some 4) (v := ?_) (a' := ?_) #[true, true, true, true, true, true, false, false] rfl rfl (by kernel_rfl) (fun _ _ _ h => h) (Or.inl ⟨by rfl, ?_⟩) ?_ ?_
        rotate_left
        · intro w'
          go_simp
          with_reducible rfl
        rotate_left
        · simp only [Act.put, List.setIfInBounds_toArray, List.set_cons_zero, List.set_cons_succ, i64_w, i32_w]
          rfl
        refine pure_ (i := 6) (N := some 5) (v := ?_) (a' := ?_) #[true, true, true, true, true, true, true, false] rfl rfl (by kernel_rfl) (fun _ _ _ h => h) (Or.inl ⟨by rfl, ?_⟩) ?_ ?_
        rotate_left
        · intro w'
          go_simp
          with_reducible rfl
        rotate_left
        · simp only [Act.put, List.setIfInBounds_toArray, List.set_cons_zero, List.set_cons_succ, i64_w, i32_w]
          rfl
        refine pure_ (i := 7) (N := some 6) (v := ?_) (a' := ?_) #[true, true, true, true, true, true, true, true] rfl rfl (by kernel_rfl) (fun _ _ _ h => h) (Or.inl ⟨by rfl, ?_⟩) ?_ ?_
        rotate_left
        · intro w'
          go_simp
          with_reducible rfl
        rotate_left
        · simp only [Act.put, List.setIfInBounds_toArray, List.set_cons_zero, List.set_cons_succ, i64_w, i32_w]
          rfl
        refine done_ (by kernel_rfl) ?_
        clear hHeld
        go_wp2
        refine bodyPost_ret (results_3 rfl _ _ _) rfl ?_
        exact ⟨v1, st ++ [c], true, 0, rfl, Kd.N_V HN1.out, HBW1.out, .inr ⟨HG.out.1, HG.out.2.1, HG.out.2.2.1, .inr ⟨HG.out.2.2.2, .inr (.inr ⟨HSC.out, rfl, rfl, rfl⟩)⟩⟩⟩
      · refine two_ (i := 1) (j := 3) (Ni := some 82) (Nj := some 84) #[true, true, true, false, false, false, false, false] #[true, false, true, true, false, false, false, false] rfl rfl rfl rfl (by kernel_rfl) (by decide) (by decide) (fun K hK => ?_) (fun K hK => ?_)
        · refine goes_ Try.func49 (by kernel_rfl) rfl #[.slice A0 st.length c0] (by rfl) rfl rfl (by (try simp only [List.map_toArray, List.map_cons, List.map_nil]); first | done | rfl) ?_
          refine (api_QChunk.calls (fun k => P0 k ∨ w.heap.size ≤ k) A0 c0 st st _ (HV.out _ (HBW.out.trans ((below_drew1 (Below.refl wr.heap.size wr)).mono HBW.out.size))) HCL.out).mono ?_
          rintro e w4 ⟨v0, rfl, hN4, hb4⟩
          refine ⟨_, rfl, ?_⟩
          obtain ⟨A4, c4, hv4⟩ := Kd.N_slice hN4
          subst hv4
          have hb34 : Below wr.heap.size wr w4 := (below_drew1 (Below.refl wr.heap.size wr)).trans hb4
          have HB4 := Aside0.mk hb34
          have HN4 := Aside0.mk hN4
          clear hN4 hb4 hb34
          refine hK.out _ _ (HS.out _ (HSB.out _ HB4.out)) (fun hHeld => ?_)
          clear hK K
          refine norm_ (a' := ?_) ?_ ?_
          rotate_left
          · show Act.put _ (some 82) _ = _
            simp only [Act.put, List.setIfInBounds_toArray, List.set_cons_zero, List.set_cons_succ, i64_w, i32_w]
            rfl
          refine one_ (i := 3) (N := some 84) #[true, true, true, true, false, false, false, false] rfl rfl (by kernel_rfl) (by decide) (fun K hK => ?_)
          refine value_ (v := .slice (some ⟨w4.heap.size, 0, none⟩) 1 1) (w1 := w4.alloc (.cells #[.int .i64 c.f0, .int .i64 c.f1, .bool c.f2, .slice A c.f3.length ca] 51)) (by rfl) rfl ?_ ?_
          · go_simp
          have hb5 : Below wr.heap.size wr (w4.alloc (.cells #[.int .i64 c.f0, .int .i64 c.f1, .bool c.f2, .slice A c.f3.length ca] 51)) := below_alloc HB4.out _
          refine hK.out _ _ (HS.out _ (HSB.out _ hb5)) (fun hHeld => ?_)
          clear hK K
          refine hcont (A4, c4, w4.heap.size) _ ⟨Kd.N_mono (Kd.N_lower (Kd.N_alloc HN4.out _) (by simp)) (fun k hk => hk.elim id (fun h => .inr (Nat.le_trans (Nat.le_of_lt HWS.out) (by simpa using h)))), hb_new _ _, hb5, fun e => ?_, HB4.out.size⟩
          have h : w4.heap.size < w4.heap.size := Kd.N_lt HN4.out _ e
          omega
        · refine value_ (v := .slice (some ⟨wr.heap.size, 0, none⟩) 1 1) (w1 := wr.drew.alloc (.cells #[.int .i64 c.f0, .int .i64 c.f1, .bool c.f2, .slice A c.f3.length ca] 51)) (by rfl) rfl ?_ ?_
          · go_simp
          obtain ⟨W4, hW4⟩ : ∃ W4, wr.drew.alloc (.cells #[.int .i64 c.f0, .int .i64 c.f1, .bool c.f2, .slice A c.f3.length ca] 51) = W4 := ⟨_, rfl⟩
          have hb4 : Below wr.heap.size wr W4 := by rw [← hW4]; exact below_alloc (below_drew1 (Below.refl _ _)) _
          have hk4 : W4.heap[wr.heap.size]? = some (.cells #[.int .i64 c.f0, .int .i64 c.f1, .bool c.f2, .slice A c.f3.length ca] 51 (0, 0)) := by rw [← hW4]; exact hb_new wr.drew _
          have hs4 : W4.heap.size = wr.heap.size + 1 := by rw [← hW4, World.size_alloc]; rfl
          rw [hW4]
          clear hW4
          have HB4 := Aside0.mk hb4
          have HK4 := Aside0.mk hk4
          have HS4 := Aside0.mk hs4
          clear hb4 hk4 hs4
          refine hK.out _ _ (HS.out _ (HSB.out _ HB4.out)) (fun hHeld => ?_)
          clear hK K
          refine norm_ (a' := ?_) ?_ ?_
          rotate_left
          · show Act.put _ (some 84) _ = _
            simp only [Act.put, List.setIfInBounds_toArray, List.set_cons_zero, List.set_cons_succ, i64_w, i32_w]
            rfl
          refine one_ (i := 1) (N := some 82) #[true, true, true, true, false, false, false, false] rfl rfl (by kernel_rfl) (by decide) (fun K hK => ?_)
          refine goes_ Try.func49 (by kernel_rfl) rfl #[.slice A0 st.length c0] (by rfl) rfl rfl (by (try simp only [List.map_toArray, List.map_cons, List.map_nil]); first | done | rfl) ?_
          refine (api_QChunk.calls (fun k => P0 k ∨ w.heap.size ≤ k) A0 c0 st st _ (HV.out _ (HBW.out.trans (HB4.out.mono HBW.out.size))) HCL.out).mono ?_
          rintro e w5 ⟨v0, rfl, hN5, hb5⟩
          refine ⟨_, rfl, ?_⟩
          obtain ⟨A4, c4, hv4⟩ := Kd.N_slice hN5
          subst hv4
          have hb45 := HB4.out.trans (hb5.mono HB4.out.size)
          refine hK.out _ _ (HS.out _ (HSB.out _ hb45)) (fun hHeld => ?_)
          clear hK K
          refine hcont (A4, c4, wr.heap.size) _ ⟨Kd.N_mono (Kd.N_lower hN5 HB4.out.size) (fun k hk => hk.elim id (fun h => .inr (Nat.le_trans (Nat.le_of_lt HWS.out) (Nat.le_trans HB4.out.size h)))), (hb5.block _ (lt_of_blk HK4.out)).trans HK4.out, hb45, fun e => ?_, Nat.le_refl _⟩
          have h : W4.heap.size ≤ wr.heap.size := Kd.N_base hN5 _ e
          have := HS4.out
          omega
    | succ k2 =>
      have hb : decide ((i : Int) < (st.length : Int)) = true := decide_eq_true (by omega)
      have hb' : decide (i < st.length) = true := decide_eq_true (by omega)
      have hil : i < st.length := by omega
      obtain ⟨s, hs⟩ : ∃ s, rd_T51 st (i : Int) = s := ⟨_, rfl⟩
      have hsm : st[i]? = some s := by rw [← hs]; unfold rd_T51; rw [Int.toNat_natCast, List.getD_eq_getElem?_getD, List.getElem?_eq_getElem hil]; rfl
      have hdrop : st.drop i = s :: st.drop (i + 1) := by
        rw [List.drop_eq_getElem_cons hil]
        rw [List.getElem?_eq_getElem hil] at hsm
        rw [Option.some.inj hsm]
      obtain ⟨ad, A3, c3, rfl, x0, x1, x2, x3, hl3, hi3⟩ := at_T51 (Kd.V_reads' (HV.out _ HBW.out)).2.2 (i : Int) (by omega) (by omega)
      rw [hs] at x0 x1 x2 x3 hl3 hi3
      rw [Int.toNat_natCast] at x0 x1 x2 x3
      have HL3 := Aside0.mk hl3
      have HI3 := Aside0.mk hi3
      have HSM := Aside0.mk hsm
      have HDR := Aside0.mk hdrop
      have HIL := Aside0.mk hil
      have r0 := eq_true (show (0 : Int) ≤ (i : Int) by omega)
      have r1 := eq_true (show (i : Int) < (st.length : Int) by omega)
      have r2 := eq_true hil
      clear hs hsm hdrop hl3 hi3 hil
      go_upto_region 8 with (fail)
      obtain ⟨W5, hW5⟩ : ∃ W5, wr.alloc (.cells #[.int .i64 s.f0, .int .i64 s.f1, .bool s.f2, .slice A3 s.f3.length c3] 51) = W5 := ⟨_, rfl⟩
      have hb5 : Below wr.heap.size wr W5 := by rw [← hW5]; exact below_alloc (Below.refl _ _) _
      have hk5 : W5.heap[wr.heap.size]? = some (.cells #[.int .i64 s.f0, .int .i64 s.f1, .bool s.f2, .slice A3 s.f3.length c3] 51 (0, 0)) := by rw [← hW5]; exact hb_new _ _
      rw [hW5]
      clear hW5 x0 x1 x2 x3 y0 y1 y2 y3 r0 r1 r2 hb hb'
      have HB5 := Aside0.mk hb5
      have HBW5 := Aside0.mk (HBW.out.trans (hb5.mono HBW.out.size))
      have HB15 := Aside0.mk (hB.out.trans (hb5.mono hB.out.size))
      have HK5 := Aside0.mk hk5
      have HKC5 := Aside0.mk ((hb5.block _ (lt_of_blk HKR.out)).trans HKR.out)
      have HI5 := Aside0.mk (Kd.C_below HI3.out hb5)
      have HLS := Aside0.mk (HLN.out s (List.mem_of_getElem? HSM.out))
      have HX := Aside0.mk (show ∀ X, Below W5.heap.size W5 X → (X.cell? ⟨wr.heap.size, 0, none⟩ = some (.int .i64 s.f0) ∧ X.cell? ⟨wr.heap.size, 1, none⟩ = some (.int .i64 s.f1) ∧ X.cell? ⟨wr.heap.size, 2, none⟩ = some (.bool s.f2) ∧ X.cell? ⟨wr.heap.size, 3, none⟩ = some (.slice A3 s.f3.length c3) ∧ X.cell? ⟨w.heap.size, 0, none⟩ = some (.int .i64 c.f0) ∧ X.cell? ⟨w.heap.size, 1, none⟩ = some (.int .i64 c.f1) ∧ X.cell? ⟨w.heap.size, 2, none⟩ = some (.bool c.f2) ∧ X.cell? ⟨w.heap.size, 3, none⟩ = some (.slice A c.f3.length ca)) from fun X hX => by
        have e1 := (hX.block _ (lt_of_blk HK5.out)).trans HK5.out
        have e2 := (hX.block _ (lt_of_blk HKC5.out)).trans HKC5.out
        exact ⟨(cells_of_blk e1 0).trans rfl, (cells_of_blk e1 1).trans rfl, (cells_of_blk e1 2).trans rfl, (cells_of_blk e1 3).trans rfl, (cells_of_blk e2 0).trans rfl, (cells_of_blk e2 1).trans rfl, (cells_of_blk e2 2).trans rfl, (cells_of_blk e2 3).trans rfl⟩)
      obtain ⟨p0, p1, p2, p3, y0, y1, y2, y3⟩ := HX.out W5 (Below.refl _ _)
      clear hb5 hk5
      by_cases d0 : s.f0 = c.f0
      · have e0 : (s.f0 != c.f0) = false := by simpa using d0
        have e0' : (s.f0 == c.f0) = true := by simpa using d0
        by_cases d1 : s.f1 = c.f1
        · have e1 : (s.f1 == c.f1) = true := by simpa using d1
          obtain ⟨kk, hkk⟩ := eqC_one s c d0 d1 (by have := HLS.out; omega)
          have HR := Aside0.mk (show ∀ W, W = (W5.alloc (.cells #[.int .i64 s.f0, .int .i64 s.f1, .bool s.f2, .slice A3 s.f3.length c3] 51)).alloc (.cells #[.int .i64 c.f0, .int .i64 c.f1, .bool c.f2, .slice A c.f3.length ca] 51) → Kd.C k51 W (some ⟨W5.heap.size, 0, none⟩) ([s] : List S51).length [s] ∧ Kd.C k51 W (some ⟨W5.heap.size + 1, 0, none⟩) ([c] : List S51).length [c] ∧ Below W5.heap.size W5 W from fun W hW => by
            have hb : Below W5.heap.size W5 W := by rw [hW]; exact below_alloc (below_alloc (Below.refl _ _) _) _
            refine ⟨one51 (by rw [hW]; exact hb_alloc (hb_new W5 _)) HL3.out (Kd.C_below HI5.out hb), one51 (A := A) (c := ca) ?_ HCA.out (Kd.C_below (Kd.F_now HC.out) (HBW5.out.trans (hb.mono HBW5.out.size))), hb⟩
            rw [hW]
            have := hb_new (W5.alloc (.cells #[.int .i64 s.f0, .int .i64 s.f1, .bool s.f2, .slice A3 s.f3.length c3] 51)) (.cells #[.int .i64 c.f0, .int .i64 c.f1, .bool c.f2, .slice A c.f3.length ca] 51)
            rwa [World.size_alloc] at this)
          have ya0 : ∀ o, (W5.alloc o).cell? ⟨w.heap.size, 0, none⟩ = some (.int .i64 c.f0) := fun o => (HX.out _ (below_alloc (Below.refl _ _) o)).2.2.2.2.1
          have ya1 : ∀ o, (W5.alloc o).cell? ⟨w.heap.size, 1, none⟩ = some (.int .i64 c.f1) := fun o => (HX.out _ (below_alloc (Below.refl _ _) o)).2.2.2.2.2.1
          have ya2 : ∀ o, (W5.alloc o).cell? ⟨w.heap.size, 2, none⟩ = some (.bool c.f2) := fun o => (HX.out _ (below_alloc (Below.refl _ _) o)).2.2.2.2.2.2.1
          have ya3 : ∀ o, (W5.alloc o).cell? ⟨w.heap.size, 3, none⟩ = some (.slice A c.f3.length ca) := fun o => (HX.out _ (below_alloc (Below.refl _ _) o)).2.2.2.2.2.2.2
          by_cases dq : s.f2 = c.f2 ∧ s.f3 = c.f3
          · have hkk' : glossatorref3_EqualChunks.f kk [s] [c] = some true := by rw [hkk, decide_eq_true dq]
            have HKK := Aside0.mk hkk'
            have HSC := Aside0.mk (show scanA st c = 1 by rw [← hS.out, HDR.out, scanA, if_pos d0, if_pos ⟨d1, dq⟩])
            clear hkk hkk' dq d0 d1
            go_wp2_with (go_at_call 48; refine (glossatorref3_EqualChunks.calls kk (some ⟨W5.heap.size, 0, none⟩) 1 [s] (some ⟨W5.heap.size + 1, 0, none⟩) 1 [c] true _ (HR.out _ rfl).1 (Nat.le_refl _) (HR.out _ rfl).2.1 (Nat.le_refl _) HKK.out).mono ?_; rintro e w7 ⟨rfl, hb7⟩; have HB7 := Aside0.mk ((HR.out _ rfl).2.2.trans (hb7.mono (HR.out _ rfl).2.2.size)); clear hb7)
            refine bodyPost_ret (results_3 rfl _ _ _) rfl ?_
            have hb := HBW5.out.trans (HB7.out.mono HBW5.out.size)
            exact ⟨_, st, false, 0, rfl, HV.out _ hb, hb, .inr ⟨HG.out.1, HG.out.2.1, HG.out.2.2.1, .inr ⟨HG.out.2.2.2, .inl ⟨HSC.out, rfl, rfl, rfl⟩⟩⟩⟩
          · have hkk' : glossatorref3_EqualChunks.f kk [s] [c] = some false := by rw [hkk, decide_eq_false dq]
            have HKK := Aside0.mk hkk'
            have HSC := Aside0.mk (show scanA st c = 2 by rw [← hS.out, HDR.out, scanA, if_pos d0, if_neg (fun h => dq h.2), if_pos (.inl d1)])
            clear hkk hkk' dq d0 d1
            go_wp2_with (go_at_call 48; refine (glossatorref3_EqualChunks.calls kk (some ⟨W5.heap.size, 0, none⟩) 1 [s] (some ⟨W5.heap.size + 1, 0, none⟩) 1 [c] false _ (HR.out _ rfl).1 (Nat.le_refl _) (HR.out _ rfl).2.1 (Nat.le_refl _) HKK.out).mono ?_; rintro e w7 ⟨rfl, hb7⟩; have HB7 := Aside0.mk ((HR.out _ rfl).2.2.trans (hb7.mono (HR.out _ rfl).2.2.size)); obtain ⟨q0, q1, q2, q3, z0, z1, z2, z3⟩ := HX.out w7 HB7.out; clear hb7)
            refine bodyPost_ret (results_3 rfl _ _ _) rfl ?_
            have hb := HBW5.out.trans (HB7.out.mono HBW5.out.size)
            exact ⟨_, st, false, 10, rfl, HV.out _ hb, hb, .inr ⟨HG.out.1, HG.out.2.1, HG.out.2.2.1, .inr ⟨HG.out.2.2.2, .inr (.inl ⟨HSC.out, rfl, rfl, rfl⟩)⟩⟩⟩
        · have e1 : (s.f1 == c.f1) = false := by simpa using d1
          obtain ⟨la, hla⟩ : ∃ la, s.f2 = la := ⟨_, rfl⟩
          obtain ⟨lb, hlb⟩ : ∃ lb, c.f2 = lb := ⟨_, rfl⟩
          rw [hla] at p2
          rw [hlb] at y2
          by_cases ha : la = true ∧ s.f1 < c.f1
          · obtain ⟨rfl, ha⟩ := ha
            have e2 : decide (s.f1 < c.f1) = true := decide_eq_true ha
            have HSC := Aside0.mk (show scanA st c = 2 by rw [← hS.out, HDR.out, scanA, if_pos d0, if_neg (fun h => d1 h.1), if_pos (.inr (.inl ⟨hla, ha⟩))])
            clear ha d0 d1 hla hlb
            go_wp2
            refine bodyPost_ret (results_3 rfl _ _ _) rfl ?_
            exact ⟨_, st, false, 10, rfl, HV.out _ HBW5.out, HBW5.out, .inr ⟨HG.out.1, HG.out.2.1, HG.out.2.2.1, .inr ⟨HG.out.2.2.2, .inr (.inl ⟨HSC.out, rfl, rfl, rfl⟩)⟩⟩⟩
          by_cases hb : lb = true ∧ c.f1 < s.f1
          · obtain ⟨rfl, hb⟩ := hb
            have e2 : decide (s.f1 < c.f1) = false := decide_eq_false (by omega)
            have e3 : decide (s.f1 > c.f1) = true := decide_eq_true hb
            have HSC := Aside0.mk (show scanA st c = 2 by rw [← hS.out, HDR.out, scanA, if_pos d0, if_neg (fun h => d1 h.1), if_pos (.inr (.inr ⟨hlb, hb⟩))])
            clear ha hb d0 d1 hla hlb
            cases la
            · go_wp2
              refine bodyPost_ret (results_3 rfl _ _ _) rfl ?_
              exact ⟨_, st, false, 10, rfl, HV.out _ HBW5.out, HBW5.out, .inr ⟨HG.out.1, HG.out.2.1, HG.out.2.2.1, .inr ⟨HG.out.2.2.2, .inr (.inl ⟨HSC.out, rfl, rfl, rfl⟩)⟩⟩⟩
            · go_wp2
              refine bodyPost_ret (results_3 rfl _ _ _) rfl ?_
              exact ⟨_, st, false, 10, rfl, HV.out _ HBW5.out, HBW5.out, .inr ⟨HG.out.1, HG.out.2.1, HG.out.2.2.1, .inr ⟨HG.out.2.2.2, .inr (.inl ⟨HSC.out, rfl, rfl, rfl⟩)⟩⟩⟩
          have HSC := Aside0.mk (show scanA (st.drop (i + 1)) c = scanA st c by
            rw [← hS.out, HDR.out, scanA, if_pos d0, if_neg (fun h => d1 h.1), if_neg (fun h => by
              rcases h with h | h | h
              · exact d1 h
              · exact ha ⟨hla ▸ h.1, h.2⟩
              · exact hb ⟨hlb ▸ h.1, h.2⟩)])
          have HAA := Aside0.mk ha
          have HBB := Aside0.mk hb
          clear ha hb d0 d1 hla hlb
          cases la with
          | true =>
            have e2 : decide (s.f1 < c.f1) = false := decide_eq_false (fun h => HAA.out ⟨rfl, h⟩)
            cases lb with
            | true =>
              have e3 : decide (s.f1 > c.f1) = false := decide_eq_false (fun h => HBB.out ⟨rfl, h⟩)
              go_wp2
              go_roundg k2
              case measure => omega
              case rel => exact ⟨i + 1, by congr 1; have := HIL.out; have := HST.out; unfold wrap64; omega, by omega, HB15, HSC⟩
            | false =>
              go_wp2
              go_roundg k2
              case measure => omega
              case rel => exact ⟨i + 1, by congr 1; have := HIL.out; have := HST.out; unfold wrap64; omega, by omega, HB15, HSC⟩
          | false =>
            cases lb with
            | true =>
              have e3 : decide (s.f1 > c.f1) = false := decide_eq_false (fun h => HBB.out ⟨rfl, h⟩)
              go_wp2
              go_roundg k2
              case measure => omega
              case rel => exact ⟨i + 1, by congr 1; have := HIL.out; have := HST.out; unfold wrap64; omega, by omega, HB15, HSC⟩
            | false =>
              go_wp2
              go_roundg k2
              case measure => omega
              case rel => exact ⟨i + 1, by congr 1; have := HIL.out; have := HST.out; unfold wrap64; omega, by omega, HB15, HSC⟩
      · have e0 : (s.f0 != c.f0) = true := by simpa using d0
        have HSC := Aside0.mk (show scanA (st.drop (i + 1)) c = scanA st c by rw [← hS.out, HDR.out, scanA, if_neg d0])
        clear d0
        go_wp2
        go_roundg k2
        case measure => omega
        case rel => exact ⟨i + 1, by congr 1; have := HIL.out; have := HST.out; unfold wrap64; omega, by omega, HB15, HSC⟩
end Go.Proofs.Ytogpjenmfgpfiaa.QProgressAssembler
