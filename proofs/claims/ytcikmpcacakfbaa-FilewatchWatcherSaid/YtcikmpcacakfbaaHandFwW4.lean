/-
  The reference's Watcher.Add (function 32).
-/
import Derived.Test.YtcikmpcacakfbaaHandFwW3
namespace Go.Proofs.Ytcikmpcacakfbaa.QFilewatchBatches
open Go.RowKit Go.Proofs.YtcikmpcacakfbaaW.PrintWords Go.Proofs.YtcikmpcacakfbaaW.PrintLast Go.Proofs.YtcikmpcacakfbaaW.PrintMore Go.Proofs.Ytcikmpcacakfbaa.Hand
set_option linter.unusedVariables false
set_option linter.unusedSimpArgs false
set_option maxRecDepth 100000 in
set_option maxHeartbeats 16000000 in
theorem refAdd_calls (g : Nat) (v : Value) (s : WS) (x : S58) (w : World) (hI : WI 56 g v s w) (hl : s.es.length < 100000) :
    Calls Try.prog 32 #[.pointer (some ⟨g, 0, none⟩), .agg #[.int .i64 x.f0, .string x.f1, .int .i64 x.f2]] w (AddPost 56 g v (addR dueB s x) w) := by
  have HI := Aside0.mk hI
  have HL := Aside0.mk hl
  have hu := Try.underlying56
  clear hI hl
  go_enter Try.func32, Try.ntmps32
  go_upto_region 1 with (fail)
  obtain ⟨b, hb⟩ : ∃ b, w.heap.size = b := ⟨_, rfl⟩
  have HBW := Aside0.mk hb
  have HGB := Aside0.mk (show g < b by rw [← hb]; exact HI.out.lt)
  obtain ⟨W1, hW1⟩ : ∃ W1, w.alloc (.cells #[.int .i64 x.f0, .string x.f1, .int .i64 x.f2] 58) = W1 := ⟨_, rfl⟩
  have hb1 : Below b w W1 := by rw [← hb, ← hW1]; exact below_alloc (Below.refl _ _) _
  have hk1 : W1.heap[b]? = some (.cells #[.int .i64 x.f0, .string x.f1, .int .i64 x.f2] 58 (0, 0)) := by rw [← hb, ← hW1]; exact hb_new _ _
  have hI1 : WI 56 g v s W1 := HI.out.below (by rw [hb]; exact hb1)
  rw [hW1, hb]
  have HB1 := Aside0.mk hb1
  have HK1 := Aside0.mk hk1
  have HI1 := Aside0.mk hI1
  have HC1 := Aside0.mk (show Chg (fun k => k = g ∨ some k = v.ownBlock) w W1 from Chg.of_new (by rw [hb]; exact hb1))
  clear hb1 hk1 hI1 hb hW1
  have x0 : W1.cell? ⟨b, 0, none⟩ = some (.int .i64 x.f0) := (cells_of_blk HK1.out 0).trans rfl
  have x2 : W1.cell? ⟨b, 2, none⟩ = some (.int .i64 x.f2) := (cells_of_blk HK1.out 2).trans rfl
  have g1 : W1.cell? ⟨g, 1, none⟩ = some (.int .i64 s.now) := (cells_of_blk HI1.out.1 1).trans rfl
  have HLF := Aside0.mk (show ∀ X : World, Below W1.heap.size W1 X → WI 56 g v s X ∧ X.heap[b]? = some (.cells #[.int .i64 x.f0, .string x.f1, .int .i64 x.f2] 58 (0, 0)) ∧ Chg (fun k => k = g ∨ some k = v.ownBlock) w X from fun X hX =>
    ⟨HI1.out.below hX, (hX.block _ (lt_of_blk HK1.out)).trans HK1.out, HC1.out.trans (Chg.of_new (S := fun k => k = g ∨ some k = v.ownBlock) hX) (fun _ _ e => e)⟩)
  by_cases kv1 : x.f2 < 1
  · have b1 := decide_eq_true kv1
    have HR := Aside0.mk (show addR dueB s x = (7, s) by unfold addR; rw [if_pos (by omega)])
    clear kv1
    go_wp2
    go_ret
    obtain ⟨h1, _, h3⟩ := HLF.out _ (Below.refl _ _)
    exact ⟨v, by rw [HR.out]; rfl, by rw [HR.out]; exact h1, h3, fun k hk => .inl hk⟩
  have b1 := decide_eq_false kv1
  by_cases kv2 : x.f2 > 3
  · have b2 := decide_eq_true kv2
    have HR := Aside0.mk (show addR dueB s x = (7, s) by unfold addR; rw [if_pos (by omega)])
    clear kv1 kv2
    go_wp2
    go_ret
    obtain ⟨h1, _, h3⟩ := HLF.out _ (Below.refl _ _)
    exact ⟨v, by rw [HR.out]; rfl, by rw [HR.out]; exact h1, h3, fun k hk => .inl hk⟩
  have b2 := decide_eq_false kv2
  have HKV := Aside0.mk (show 1 ≤ x.f2 ∧ x.f2 ≤ 3 by omega)
  clear kv1 kv2
  go_upto_region 3 with (fail)
  have hf9 := HLF.out _ (Below.refl W1.heap.size W1)
  clear x0 x2 g1 b1 b2
  obtain ⟨W2, hW2⟩ : ∃ W2, W2 = W1 := ⟨_, rfl⟩
  rw [← hW2] at hf9 ⊢
  have HD := Aside0.mk (show Below W1.heap.size W1 W2 by rw [hW2]; exact Below.refl _ _)
  clear hW2
  have x0 : W2.cell? ⟨b, 0, none⟩ = some (.int .i64 x.f0) := (cells_of_blk hf9.2.1 0).trans rfl
  have g1 : W2.cell? ⟨g, 1, none⟩ = some (.int .i64 s.now) := (cells_of_blk hf9.1.1 1).trans rfl
  have HF9 := Aside0.mk hf9
  clear hf9
  have HE := Aside0.mk (show ∀ r, (¬ (1 ≤ x.f2 ∧ x.f2 ≤ 3)) = False → (if x.f0 < 0 ∨ x.f0 > 1000000000000 ∨ x.f0 < s.now then (3, s) else if dueB s x.f0 = true then (8, s) else (0, ⟨s.delay, x.f0, s.es ++ [x]⟩)) = r → addR dueB s x = r from fun r h0 h => by unfold addR; rw [if_neg (by rw [h0]; exact id)]; exact h)
  have HKV2 := Aside0.mk (show (¬ (1 ≤ x.f2 ∧ x.f2 ≤ 3)) = False from eq_false (fun h => h HKV.out))
  by_cases t1 : x.f0 < 0
  · have d1 := decide_eq_true t1
    have HR := Aside0.mk (HE.out (3, s) HKV2.out (by rw [if_pos (.inl t1)]))
    clear t1 HE
    go_wp2
    go_quiet (fail)
    go_wp2
    go_ret
    obtain ⟨h1, _, h3⟩ := HLF.out _ (pw_below_drewN HD.out _)
    exact ⟨v, by rw [HR.out]; rfl, by rw [HR.out]; exact h1, h3, fun k hk => .inl hk⟩
  have d1 := decide_eq_false t1
  by_cases t2 : x.f0 > 1000000000000
  · have d2 := decide_eq_true t2
    have HR := Aside0.mk (HE.out (3, s) HKV2.out (by rw [if_pos (.inr (.inl t2))]))
    clear t1 t2 HE
    go_wp2
    go_quiet (fail)
    go_wp2
    go_ret
    obtain ⟨h1, _, h3⟩ := HLF.out _ (pw_below_drewN HD.out _)
    exact ⟨v, by rw [HR.out]; rfl, by rw [HR.out]; exact h1, h3, fun k hk => .inl hk⟩
  have d2 := decide_eq_false t2
  by_cases t3 : x.f0 < s.now
  · have d3 := decide_eq_true t3
    have HR := Aside0.mk (HE.out (3, s) HKV2.out (by rw [if_pos (.inr (.inr t3))]))
    clear t1 t2 t3 HE
    go_wp2
    go_quiet (fail)
    go_wp2
    go_ret
    obtain ⟨h1, _, h3⟩ := HLF.out _ (pw_below_drewN HD.out _)
    exact ⟨v, by rw [HR.out]; rfl, by rw [HR.out]; exact h1, h3, fun k hk => .inl hk⟩
  have d3 := decide_eq_false t3
  have HT := Aside0.mk (show ¬ (x.f0 < 0 ∨ x.f0 > 1000000000000 ∨ x.f0 < s.now) from fun h => h.elim t1 (fun h => h.elim t2 t3))
  clear t1 t2 t3
  cases hcb : dueB s x.f0 with
  | true =>
    have HR := Aside0.mk (HE.out (8, s) HKV2.out (by rw [if_neg HT.out, if_pos hcb]))
    have CC := Aside0.mk (fun (X : World) (hX : Below W1.heap.size W1 X) => due_calls g v s x.f0 X (HLF.out X hX).1 HL.out)
    rw [hcb] at CC
    clear hcb HE
    go_wp2
    go_quiet (fail)
    go_upto_region 5 with (fail)
    have hq := pw_below_drewN HD.out nq
    have q0 : (W2.drewN nq).cell? ⟨b, 0, none⟩ = some (.int .i64 x.f0) := x0
    go_wp2_with (go_at_call 55; refine (CC.out _ hq).mono ?_; rintro e w5 ⟨rfl, hb5⟩; have HB5 := Aside0.mk (hq.trans (hb5.mono hq.size)); clear hb5)
    go_ret
    obtain ⟨h1, _, h3⟩ := HLF.out _ HB5.out
    exact ⟨v, by rw [HR.out]; rfl, by rw [HR.out]; exact h1, h3, fun k hk => .inl hk⟩
  | false =>
    have HR := Aside0.mk (HE.out (0, ⟨s.delay, x.f0, s.es ++ [x]⟩) HKV2.out (by rw [if_neg HT.out, hcb]; rfl))
    have CC := Aside0.mk (fun (X : World) (hX : Below W1.heap.size W1 X) => due_calls g v s x.f0 X (HLF.out X hX).1 HL.out)
    rw [hcb] at CC
    clear hcb HE
    go_wp2
    go_quiet (fail)
    go_upto_region 5 with (fail)
    have hq := pw_below_drewN HD.out nq
    have q0 : (W2.drewN nq).cell? ⟨b, 0, none⟩ = some (.int .i64 x.f0) := x0
    go_upto_region 7 with (go_at_call 55; refine (CC.out _ hq).mono ?_; rintro e w5 ⟨rfl, hb5⟩; have HB5 := Aside0.mk (hq.trans (hb5.mono hq.size)); clear hb5)
    obtain ⟨hI5, hk5, hc5⟩ := HLF.out _ HB5.out
    have HI5 := Aside0.mk hI5
    have HK5 := Aside0.mk hk5
    have HC5 := Aside0.mk hc5
    clear hI5 hk5 hc5 q0 hq g1 d1 d2 d3 x0
    obtain ⟨V, c, hv⟩ := Kd.R_slice HI5.out.2
    subst hv
    have HSS := Aside0.mk (show ∀ X : World, X.heap[b]? = w5.heap[b]? → (X.cell? ⟨b, 0, none⟩ = some (.int .i64 x.f0) ∧ X.cell? ⟨b, 1, none⟩ = some (.string x.f1) ∧ X.cell? ⟨b, 2, none⟩ = some (.int .i64 x.f2)) from fun X hb => by
      have h2 := hb.trans HK5.out
      exact ⟨(cells_of_blk h2 0).trans rfl, (cells_of_blk h2 1).trans rfl, (cells_of_blk h2 2).trans rfl⟩)
    have HGD := Aside0.mk (show w5.drew.heap[g]? = some (.cells #[.int .i64 s.delay, .int .i64 s.now, .slice V s.es.length c] 56 (0, 0)) from HI5.out.1)
    refine start_ (n := 17) (S := fun w' => w'.cell? ⟨b, 0, none⟩ = some (.int .i64 x.f0) ∧ w'.cell? ⟨b, 1, none⟩ = some (.string x.f1) ∧ w'.cell? ⟨b, 2, none⟩ = some (.int .i64 x.f2)) (ds := ([] : List Nat)) #[false, false, false, false, false, false, false, false, false, false, false, false, false, false, false, false, false] (by kernel_rfl) rfl rfl (HSS.out _ rfl) (fun hHeld => ?_)
    refine pure_ (i := 0) (N := some 34) (v := ?_) (a' := ?_) #[true, false, false, false, false, false, false, false, false, false, false, false, false, false, false, false, false] rfl rfl (by kernel_rfl) (fun _ _ _ h => h) (Or.inl ⟨by rfl, ?_⟩) ?_ ?_
    rotate_left
    · intro w'
      go_simp
      with_reducible rfl
    rotate_left
    · simp only [Act.put, List.setIfInBounds_toArray, List.set_cons_zero, List.set_cons_succ, i64_w, i32_w]
      rfl
    refine pure_ (i := 1) (N := some 35) (v := ?_) (a' := ?_) #[true, true, false, false, false, false, false, false, false, false, false, false, false, false, false, false, false] rfl rfl (by kernel_rfl) (fun _ _ _ h => h) (Or.inl ⟨by rfl, ?_⟩) ?_ ?_
    rotate_left
    · intro w'
      go_simp
      with_reducible rfl
    rotate_left
    · simp only [Act.put, List.setIfInBounds_toArray, List.set_cons_zero, List.set_cons_succ, i64_w, i32_w]
      rfl
    refine pure_ (i := 2) (N := some 36) (v := ?_) (a' := ?_) #[true, true, true, false, false, false, false, false, false, false, false, false, false, false, false, false, false] rfl rfl (by kernel_rfl) (fun _ _ _ h => h) (Or.inl ⟨by rfl, ?_⟩) ?_ ?_
    rotate_left
    · intro w'
      go_simp
      with_reducible rfl
    rotate_left
    · simp only [Act.put, List.setIfInBounds_toArray, List.set_cons_zero, List.set_cons_succ, i64_w, i32_w]
      rfl
    refine pure_ (i := 3) (N := some 37) (v := ?_) (a' := ?_) #[true, true, true, true, false, false, false, false, false, false, false, false, false, false, false, false, false] rfl rfl (by kernel_rfl) (fun _ _ _ h => h) (Or.inl ⟨by rfl, ?_⟩) ?_ ?_
    rotate_left
    · intro w'
      go_simp
      with_reducible rfl
    rotate_left
    · simp only [Act.put, List.setIfInBounds_toArray, List.set_cons_zero, List.set_cons_succ, i64_w, i32_w]
      rfl
    refine pure_ (i := 4) (N := some 38) (v := ?_) (a' := ?_) #[true, true, true, true, true, false, false, false, false, false, false, false, false, false, false, false, false] rfl rfl (by kernel_rfl) (fun _ _ _ h => h) (Or.inl ⟨by rfl, ?_⟩) ?_ ?_
    rotate_left
    · intro w'
      go_simp
      with_reducible rfl
    rotate_left
    · simp only [Act.put, List.setIfInBounds_toArray, List.set_cons_zero, List.set_cons_succ, i64_w, i32_w]
      rfl
    refine pure_ (i := 9) (N := some 43) (v := ?_) (a' := ?_) #[true, true, true, true, true, false, false, false, false, true, false, false, false, false, false, false, false] rfl rfl (by kernel_rfl) (fun _ _ _ h => h) (Or.inl ⟨by rfl, ?_⟩) ?_ ?_
    rotate_left
    · intro w'
      go_simp
      with_reducible rfl
    rotate_left
    · simp only [Act.put, List.setIfInBounds_toArray, List.set_cons_zero, List.set_cons_succ, i64_w, i32_w]
      rfl
    refine take_ (i := 6) (N := some 40) (v := ?_) (a' := ?_) #[true, true, true, true, true, false, true, false, false, true, false, false, false, false, false, false, false] rfl rfl (by kernel_rfl) (fun _ _ _ h => h) (Or.inl ⟨by rfl, ?_⟩) hHeld ?_ ?_
    rotate_left
    · rintro w' ⟨s0_, s1_, s2_⟩
      go_simp
      with_reducible rfl
    rotate_left
    · simp only [Act.put, List.setIfInBounds_toArray, List.set_cons_zero, List.set_cons_succ, i64_w, i32_w]
      rfl
    refine take_ (i := 10) (N := some 44) (v := ?_) (a' := ?_) #[true, true, true, true, true, false, true, false, false, true, true, false, false, false, false, false, false] rfl rfl (by kernel_rfl) (fun _ _ _ h => h) (Or.inl ⟨by rfl, ?_⟩) hHeld ?_ ?_
    rotate_left
    · rintro w' ⟨s0_, s1_, s2_⟩
      go_simp
      with_reducible rfl
    rotate_left
    · simp only [Act.put, List.setIfInBounds_toArray, List.set_cons_zero, List.set_cons_succ, i64_w, i32_w]
      rfl
    have HGE := Aside0.mk (show (w5.drew.alloc (.cells #[.int .i64 x.f0, .string x.f1, .int .i64 x.f2] 58)).heap[g]? = some (.cells #[.int .i64 s.delay, .int .i64 s.now, .slice V s.es.length c] 56 (0, 0)) from hb_alloc HGD.out)
    refine join_ (σ := Unit) 7 #[true, true, true, true, true, true, true, true, false, true, true, false, false, false, false, false, false] (fun _ => [(39, .slice V s.es.length c), (41, .slice (some ⟨w5.heap.size, 0, none⟩) 1 1)]) (fun _ w' => w' = w5.drew.alloc (.cells #[.int .i64 x.f0, .string x.f1, .int .i64 x.f2] 58)) ?_ (fun hcont => ?_)
    rotate_left
    · refine two_ (i := 5) (j := 7) (Ni := some 39) (Nj := some 41) #[true, true, true, true, true, true, true, false, false, true, true, false, false, false, false, false, false] #[true, true, true, true, true, false, true, true, false, true, true, false, false, false, false, false, false] rfl rfl rfl rfl (by kernel_rfl) (by decide) (by decide) (fun K hK => ?_) (fun K hK => ?_)
      · have s0 : w5.drew.cell? ⟨g, 2, none⟩ = some (.slice V s.es.length c) := (cells_of_blk HGD.out 2).trans rfl
        refine value_ (v := .slice V s.es.length c) (w1 := w5.drew) (by rfl) rfl ?_ ?_
        · go_simp
        clear s0
        refine hK.out _ _ (HSS.out _ rfl) (fun hHeld => ?_)
        clear hK K
        refine norm_ (a' := ?_) ?_ ?_
        rotate_left
        · show Act.put _ (some 39) _ = _
          simp only [Act.put, List.setIfInBounds_toArray, List.set_cons_zero, List.set_cons_succ, i64_w, i32_w]
          rfl
        refine one_ (i := 7) (N := some 41) #[true, true, true, true, true, true, true, true, false, true, true, false, false, false, false, false, false] rfl rfl (by kernel_rfl) (by decide) (fun K hK => ?_)
        refine value_ (v := .slice (some ⟨w5.heap.size, 0, none⟩) 1 1) (w1 := w5.drew.alloc (.cells #[.int .i64 x.f0, .string x.f1, .int .i64 x.f2] 58)) (by rfl) rfl ?_ ?_
        · go_simp
        refine hK.out _ _ (HSS.out _ (Below.heap_alloc _ _ _ (lt_of_blk HK5.out))) (fun hHeld => ?_)
        clear hK K
        exact hcont () _ rfl
      · refine value_ (v := .slice (some ⟨w5.heap.size, 0, none⟩) 1 1) (w1 := w5.drew.alloc (.cells #[.int .i64 x.f0, .string x.f1, .int .i64 x.f2] 58)) (by rfl) rfl ?_ ?_
        · go_simp
        refine hK.out _ _ (HSS.out _ (Below.heap_alloc _ _ _ (lt_of_blk HK5.out))) (fun hHeld => ?_)
        clear hK K
        refine norm_ (a' := ?_) ?_ ?_
        rotate_left
        · show Act.put _ (some 41) _ = _
          simp only [Act.put, List.setIfInBounds_toArray, List.set_cons_zero, List.set_cons_succ, i64_w, i32_w]
          rfl
        have s0 : (w5.alloc (.cells #[.int .i64 x.f0, .string x.f1, .int .i64 x.f2] 58)).cell? ⟨g, 2, none⟩ = some (.slice V s.es.length c) := (cells_of_blk (B := g) HGE.out 2).trans rfl
        refine one_ (i := 5) (N := some 39) #[true, true, true, true, true, true, true, true, false, true, true, false, false, false, false, false, false] rfl rfl (by kernel_rfl) (by decide) (fun K hK => ?_)
        refine value_ (v := .slice V s.es.length c) (w1 := w5.drew.alloc (.cells #[.int .i64 x.f0, .string x.f1, .int .i64 x.f2] 58)) (by rfl) rfl ?_ ?_
        · go_simp
        clear s0
        refine hK.out _ _ (HSS.out _ (Below.heap_alloc _ _ _ (lt_of_blk HK5.out))) (fun hHeld => ?_)
        clear hK K
        exact hcont () _ rfl
    rintro ⟨⟩ wj rfl
    refine norm_ (a' := ?_) ?_ ?_
    rotate_left
    · show putAll _ _ = _
      simp only [putAll, Act.put, List.setIfInBounds_toArray, List.set_cons_zero, List.set_cons_succ, i64_w, i32_w]
      rfl
    refine one_ (i := 8) (N := some 42) #[true, true, true, true, true, true, true, true, true, true, true, false, false, false, false, false, false] rfl rfl (by kernel_rfl) (by decide) (fun K hK => ?_)
    refine Kd.R_append_step k58 (w0 := w5.drew) 0 (by rfl) (.tmp 39) (.tmp 41) 38 58 (.agg #[.int .i64 0, .string ⟨#[]⟩, .int .i64 0]) 32 rfl Try.underlying38 info58 rfl (by decide) (by omega) (.slice V s.es.length c) s.es x [.int .i64 x.f0, .string x.f1, .int .i64 x.f2] (fun k => (some k = (Value.slice V s.es.length c).ownBlock ∧ k ≠ g) ∨ w5.heap.size ≤ k) (fun _ => False) rfl rfl (k58_mkM _ _ _ x) (fun _ h => h.elim) (fun k hk => .inr hk) (Kd.R_mono HI5.out.2 (fun _ hk => .inl hk)) (Below.refl _ _) (Nat.zero_le _) (by have := HL.out; omega) ?_
    intro v5 w7 ho5 hb5 hg5 hat5
    obtain ⟨V5, c5, hv5⟩ := Kd.R_slice ho5
    rw [List.length_append, List.length_singleton] at hv5
    subst hv5
    obtain ⟨e1, e2, e3, e4⟩ := WI.appended (w := w) x.f0 HI5.out HC5.out HC5.out.size ho5 ⟨hg5.os, hg5.tape, hg5.output, hg5.size, hg5.block⟩ hat5
    have e5 := hg5.block b (lt_of_blk HK5.out) (fun h => by
      have h1 := HI.out.own_lt h.symm
      have := HBW.out
      omega)
    have E1 := Aside0.mk e1
    have E2 := Aside0.mk e2
    have E3 := Aside0.mk e3
    have E4 := Aside0.mk e4
    have E5 := Aside0.mk e5
    clear ho5 hb5 hg5 hat5 e1 e2 e3 e4 e5
    refine hK.out _ _ (HSS.out _ E5.out) (fun hHeld => ?_)
    clear hK K
    refine norm_ (a' := ?_) ?_ ?_
    rotate_left
    · show Act.put _ (some 42) _ = _
      simp only [Act.put, List.setIfInBounds_toArray, List.set_cons_zero, List.set_cons_succ, i64_w, i32_w]
      rfl
    refine pure_ (i := 11) (N := some 45) (v := ?_) (a' := ?_) #[true, true, true, true, true, true, true, true, true, true, true, true, false, false, false, false, false] rfl rfl (by kernel_rfl) (fun _ _ _ h => h) (Or.inl ⟨by rfl, ?_⟩) ?_ ?_
    rotate_left
    · intro w'
      go_simp
      with_reducible rfl
    rotate_left
    · simp only [Act.put, List.setIfInBounds_toArray, List.set_cons_zero, List.set_cons_succ, i64_w, i32_w]
      rfl
    refine pure_ (i := 12) (N := some 46) (v := ?_) (a' := ?_) #[true, true, true, true, true, true, true, true, true, true, true, true, true, false, false, false, false] rfl rfl (by kernel_rfl) (fun _ _ _ h => h) (Or.inl ⟨by rfl, ?_⟩) ?_ ?_
    rotate_left
    · intro w'
      go_simp
      with_reducible rfl
    rotate_left
    · simp only [Act.put, List.setIfInBounds_toArray, List.set_cons_zero, List.set_cons_succ, i64_w, i32_w]
      rfl
    refine one_ (i := 13) (N := none) #[true, true, true, true, true, true, true, true, true, true, true, true, true, true, false, false, false] rfl rfl (by kernel_rfl) (by decide) (fun K hK => ?_)
    have s5 := (cells_of_blk E2.out 2).trans rfl
    have sf5 := free_of_blk E2.out 2
    refine skip_ (w1 := w7.setCell ⟨g, 2, none⟩ (.slice V5 (s.es.length + 1) c5)) (by rfl) rfl ?_ ?_
    · go_simp
    clear s5 sf5
    have hgb := HGB.out
    have E6 := Aside0.mk (show (w7.setCell ⟨g, 2, none⟩ (.slice V5 (s.es.length + 1) c5)).heap[g]? = some (.cells #[.int .i64 s.delay, .int .i64 s.now, .slice V5 (s.es.length + 1) c5] 56 (0, 0)) from by
      have h := hb_set E2.out 2 (.slice V5 (s.es.length + 1) c5)
      exact h)
    refine hK.out _ _ (HSS.out _ ((Below.heap_setCell _ _ _ _ (by show b ≠ g; omega)).trans E5.out)) (fun hHeld => ?_)
    clear hK K
    refine pure_ (i := 14) (N := some 47) (v := ?_) (a' := ?_) #[true, true, true, true, true, true, true, true, true, true, true, true, true, true, true, false, false] rfl rfl (by kernel_rfl) (fun _ _ _ h => h) (Or.inl ⟨by rfl, ?_⟩) ?_ ?_
    rotate_left
    · intro w'
      go_simp
      with_reducible rfl
    rotate_left
    · simp only [Act.put, List.setIfInBounds_toArray, List.set_cons_zero, List.set_cons_succ, i64_w, i32_w]
      rfl
    refine pure_ (i := 15) (N := some 48) (v := ?_) (a' := ?_) #[true, true, true, true, true, true, true, true, true, true, true, true, true, true, true, true, false] rfl rfl (by kernel_rfl) (fun _ _ _ h => h) (Or.inl ⟨by rfl, ?_⟩) ?_ ?_
    rotate_left
    · intro w'
      go_simp
      with_reducible rfl
    rotate_left
    · simp only [Act.put, List.setIfInBounds_toArray, List.set_cons_zero, List.set_cons_succ, i64_w, i32_w]
      rfl
    refine one_ (i := 16) (N := none) #[true, true, true, true, true, true, true, true, true, true, true, true, true, true, true, true, true] rfl rfl (by kernel_rfl) (by decide) (fun K hK => ?_)
    have s5 := (cells_of_blk E6.out 1).trans rfl
    have sf5 := free_of_blk E6.out 1
    refine skip_ (w1 := (w7.setCell ⟨g, 2, none⟩ (.slice V5 (s.es.length + 1) c5)).setCell ⟨g, 1, none⟩ (.int .i64 x.f0)) (by rfl) rfl ?_ ?_
    · go_simp
    clear s5 sf5
    refine hK.out _ _ (HSS.out _ ((Below.heap_setCell _ _ _ _ (by show b ≠ g; omega)).trans ((Below.heap_setCell _ _ _ _ (by show b ≠ g; omega)).trans E5.out))) (fun hHeld => ?_)
    clear hK K
    refine done_ (by kernel_rfl) ?_
    clear hHeld
    go_wp2
    go_ret
    refine ⟨.slice V5 (s.es.length + 1) c5, by rw [HR.out]; rfl, ?_, ?_, E4.out⟩
    · rw [HR.out]
      refine E1.out _ ?_ (fun k hk => (Below.heap_setCell _ _ _ _ (by show k ≠ g; exact hk)).trans (Below.heap_setCell _ _ _ _ (by show k ≠ g; exact hk)))
      have h := hb_set E6.out 1 (.int .i64 x.f0)
      exact h
    · exact (E3.out.trans (Chg.set (S := fun k => k = g ∨ some k = (Value.slice V s.es.length c).ownBlock) w7 ⟨g, 2, none⟩ _ (.inl rfl)) (fun _ _ e => e)).trans (Chg.set (S := fun k => k = g ∨ some k = (Value.slice V s.es.length c).ownBlock) _ ⟨g, 1, none⟩ _ (.inl rfl)) (fun _ _ e => e)
end Go.Proofs.Ytcikmpcacakfbaa.QFilewatchBatches
