/-
  filewatch.Watcher.Add (function 31).
-/
import Derived.Test.YtcikmpcacakfbaaHandFwW2
namespace Go.Proofs.Ytcikmpcacakfbaa.QFilewatchBatches
open Go.RowKit Go.Proofs.YtcikmpcacakfbaaW.PrintWords Go.Proofs.YtcikmpcacakfbaaW.PrintLast Go.Proofs.YtcikmpcacakfbaaW.PrintMore Go.Proofs.Ytcikmpcacakfbaa.Hand
set_option linter.unusedVariables false
set_option linter.unusedSimpArgs false
/-- What Add answers, and the watcher behind it. -/
def addR (full : WS → Int → Bool) (s : WS) (e : S58) : Int × WS :=
  if ¬ (1 ≤ e.f2 ∧ e.f2 ≤ 3) then (7, s) else if e.f0 < 0 ∨ e.f0 > 1000000000000 ∨ e.f0 < s.now then (3, s) else if full s e.f0 = true then (8, s) else (0, ⟨s.delay, e.f0, s.es ++ [e]⟩)
def AddPost (t g : Nat) (v : Value) (r : Int × WS) (w : World) (e : Ending) (w' : World) : Prop :=
  ∃ v', e = .returned (.int .i64 r.1) ∧ WI t g v' r.2 w' ∧ Chg (fun k => k = g ∨ some k = v.ownBlock) w w' ∧ ∀ k, v'.ownBlock = some k → v.ownBlock = some k ∨ w.heap.size ≤ k
/-- An event more in the row. -/
theorem WI.appended {t g : Nat} {V : Option Addr} {s : WS} {c : Nat} {w W W2 : World} {v1 : Value} {e : S58} (now : Int) (hI : WI t g (.slice V s.es.length c) s W) (hc : Chg (fun k => k = g ∨ some k = (Value.slice V s.es.length c).ownBlock) w W)
    (hw : w.heap.size ≤ W.heap.size) (ho : Kd.R k58 58 W2 0 (fun k => (some k = (Value.slice V s.es.length c).ownBlock ∧ k ≠ g) ∨ W.heap.size ≤ k) v1 (s.es ++ [e])) (hg : W.grownBy W2 (Value.slice V s.es.length c).ownBlock)
    (hat : v1.ownBlock = (Value.slice V s.es.length c).ownBlock ∨ ∃ b, v1.ownBlock = some b ∧ W.heap.size ≤ b) :
    (∀ X : World, X.heap[g]? = some (.cells #[.int .i64 s.delay, .int .i64 now, v1] t (0, 0)) → (∀ k, k ≠ g → X.heap[k]? = W2.heap[k]?) → WI t g v1 ⟨s.delay, now, s.es ++ [e]⟩ X) ∧
      W2.heap[g]? = some (.cells #[.int .i64 s.delay, .int .i64 s.now, .slice V s.es.length c] t (0, 0)) ∧
      Chg (fun k => k = g ∨ some k = (Value.slice V s.es.length c).ownBlock) w W2 ∧ ∀ k, v1.ownBlock = some k → (Value.slice V s.es.length c).ownBlock = some k ∨ w.heap.size ≤ k := by
  have hown : ∀ k, v1.ownBlock = some k → (Value.slice V s.es.length c).ownBlock = some k ∨ W.heap.size ≤ k := by
    intro k hk
    rcases hat with h | ⟨b, h, hb⟩
    · exact .inl (by rw [← h]; exact hk)
    · rw [h] at hk; injection hk with hk; exact .inr (by omega)
  have hgl := hI.lt
  have hgne : ∀ k, v1.ownBlock = some k → k ≠ g := by
    intro k hk
    rcases hown k hk with h | h
    · exact (hI.2.1 k h).2
    · omega
  have hgb : W2.heap[g]? = some (.cells #[.int .i64 s.delay, .int .i64 s.now, .slice V s.es.length c] t (0, 0)) := (hg.block g hgl (fun h => (hI.2.1 g h.symm).2 rfl)).trans hI.1
  have hrow : ∀ (X : World), (∀ k, k ≠ g → X.heap[k]? = W2.heap[k]?) → Kd.R k58 58 X 0 (fun k => some k = v1.ownBlock ∧ k ≠ g) v1 (s.es ++ [e]) := fun X hX =>
    Kd.R_mono (Kd.R_step (Kd.R_tight rfl ho) (fun k hk _ => hX k (hgne k hk.symm))) (fun k hk => ⟨hk, hgne k hk.symm⟩)
  refine ⟨fun X h1 h2 => ⟨h1, hrow X h2⟩, hgb, ?_, ?_⟩
  · exact hc.trans (Chg.of_grown (S := fun k => some k = (Value.slice V s.es.length c).ownBlock) hg (fun k e => e.symm)) (fun k _ h => .inr h)
  · intro k hk
    rcases hown k hk with h | h
    · exact .inl h
    · exact .inr (by omega)
set_option maxRecDepth 100000 in
set_option maxHeartbeats 16000000 in
theorem goAdd_calls (g : Nat) (v : Value) (s : WS) (x : S58) (w : World) (hI : WI 90 g v s w) (hl : s.es.length < 100000) :
    Calls Try.prog 31 #[.pointer (some ⟨g, 0, none⟩), .agg #[.int .i64 x.f0, .string x.f1, .int .i64 x.f2]] w (AddPost 90 g v (addR compB s x) w) := by
  have HI := Aside0.mk hI
  have HL := Aside0.mk hl
  have hu := Try.underlying90
  clear hI hl
  go_enter Try.func31, Try.ntmps31
  go_upto_region 1 with (fail)
  obtain ⟨b, hb⟩ : ∃ b, w.heap.size = b := ⟨_, rfl⟩
  have HBW := Aside0.mk hb
  have HGB := Aside0.mk (show g < b by rw [← hb]; exact HI.out.lt)
  obtain ⟨W1, hW1⟩ : ∃ W1, w.alloc (.cells #[.int .i64 x.f0, .string x.f1, .int .i64 x.f2] 58) = W1 := ⟨_, rfl⟩
  have hb1 : Below b w W1 := by rw [← hb, ← hW1]; exact below_alloc (Below.refl _ _) _
  have hk1 : W1.heap[b]? = some (.cells #[.int .i64 x.f0, .string x.f1, .int .i64 x.f2] 58 (0, 0)) := by rw [← hb, ← hW1]; exact hb_new _ _
  have hI1 : WI 90 g v s W1 := HI.out.below (by rw [hb]; exact hb1)
  rw [hW1, hb]
  have HB1 := Aside0.mk hb1
  have HK1 := Aside0.mk hk1
  have HI1 := Aside0.mk hI1
  have HC1 := Aside0.mk (show Chg (fun k => k = g ∨ some k = v.ownBlock) w W1 from Chg.of_new (by rw [hb]; exact hb1))
  clear hb1 hk1 hI1 hb hW1
  have x0 : W1.cell? ⟨b, 0, none⟩ = some (.int .i64 x.f0) := (cells_of_blk HK1.out 0).trans rfl
  have x2 : W1.cell? ⟨b, 2, none⟩ = some (.int .i64 x.f2) := (cells_of_blk HK1.out 2).trans rfl
  have g1 : W1.cell? ⟨g, 1, none⟩ = some (.int .i64 s.now) := (cells_of_blk HI1.out.1 1).trans rfl
  have HLF := Aside0.mk (show ∀ X : World, Below W1.heap.size W1 X → WI 90 g v s X ∧ X.heap[b]? = some (.cells #[.int .i64 x.f0, .string x.f1, .int .i64 x.f2] 58 (0, 0)) ∧ Chg (fun k => k = g ∨ some k = v.ownBlock) w X from fun X hX =>
    ⟨HI1.out.below hX, (hX.block _ (lt_of_blk HK1.out)).trans HK1.out, HC1.out.trans (Chg.of_new (S := fun k => k = g ∨ some k = v.ownBlock) hX) (fun _ _ e => e)⟩)
  by_cases kv : 1 ≤ x.f2 ∧ x.f2 ≤ 3
  rotate_left
  · have vk : filewatch_validKind.f x.f2 = some false := by
      unfold filewatch_validKind.f
      by_cases k1 : x.f2 ≥ 1
      · rw [if_pos k1]
        have : ¬ x.f2 ≤ 3 := fun h => kv ⟨k1, h⟩
        simp [this]
      · rw [if_neg k1]
    have HR := Aside0.mk (show addR compB s x = (7, s) by unfold addR; rw [if_pos kv])
    clear kv
    go_wp2_with (go_at_call 49; refine (filewatch_validKind.calls _ _ _ vk).mono ?_; rintro e w9 ⟨rfl, hd9⟩; have HD9 := Aside0.mk hd9.below; clear hd9)
    go_ret
    obtain ⟨h1, _, h3⟩ := HLF.out _ HD9.out
    exact ⟨v, by rw [HR.out]; rfl, by rw [HR.out]; exact h1, h3, fun k hk => .inl hk⟩
  have vk : filewatch_validKind.f x.f2 = some true := by unfold filewatch_validKind.f; rw [if_pos kv.1]; simp [kv.2]
  have HKV := Aside0.mk kv
  clear kv
  go_upto_region 3 with (go_at_call 49; refine (filewatch_validKind.calls _ _ _ vk).mono ?_; rintro e w9 ⟨rfl, hd9⟩; have HD9 := Aside0.mk hd9.below; clear hd9)
  have hf9 := HLF.out _ HD9.out
  clear x0 x2 g1 vk
  obtain ⟨W2, hW2⟩ : ∃ W2, W2 = w9 := ⟨_, rfl⟩
  subst hW2
  have HD := Aside0.mk HD9.out
  have x0 : W2.cell? ⟨b, 0, none⟩ = some (.int .i64 x.f0) := (cells_of_blk hf9.2.1 0).trans rfl
  have g1 : W2.cell? ⟨g, 1, none⟩ = some (.int .i64 s.now) := (cells_of_blk hf9.1.1 1).trans rfl
  have HF9 := Aside0.mk hf9
  clear hf9
  have HE := Aside0.mk (show ∀ r, (¬ (1 ≤ x.f2 ∧ x.f2 ≤ 3)) = False → (if x.f0 < 0 ∨ x.f0 > 1000000000000 ∨ x.f0 < s.now then (3, s) else if compB s x.f0 = true then (8, s) else (0, ⟨s.delay, x.f0, s.es ++ [x]⟩)) = r → addR compB s x = r from fun r h0 h => by unfold addR; rw [if_neg (by rw [h0]; exact id)]; exact h)
  have HKV2 := Aside0.mk (show (¬ (1 ≤ x.f2 ∧ x.f2 ≤ 3)) = False from eq_false (fun h => h HKV.out))
  by_cases t1 : x.f0 < 0
  · have d1 := decide_eq_true t1
    have HR := Aside0.mk (HE.out (3, s) HKV2.out (by rw [if_pos (.inl t1)]))
    clear t1 HE
    go_wp2
    go_quiet (fail)
    go_wp2
    go_ret
    obtain ⟨h1, _, h3⟩ := HLF.out _ (pw_below_drewN HD.out _)
    exact ⟨v, by rw [HR.out]; rfl, by rw [HR.out]; exact h1, h3, fun k hk => .inl hk⟩
  have d1 := decide_eq_false t1
  by_cases t2 : x.f0 > 1000000000000
  · have d2 := decide_eq_true t2
    have HR := Aside0.mk (HE.out (3, s) HKV2.out (by rw [if_pos (.inr (.inl t2))]))
    clear t1 t2 HE
    go_wp2
    go_quiet (fail)
    go_wp2
    go_ret
    obtain ⟨h1, _, h3⟩ := HLF.out _ (pw_below_drewN HD.out _)
    exact ⟨v, by rw [HR.out]; rfl, by rw [HR.out]; exact h1, h3, fun k hk => .inl hk⟩
  have d2 := decide_eq_false t2
  by_cases t3 : x.f0 < s.now
  · have d3 := decide_eq_true t3
    have HR := Aside0.mk (HE.out (3, s) HKV2.out (by rw [if_pos (.inr (.inr t3))]))
    clear t1 t2 t3 HE
    go_wp2
    go_quiet (fail)
    go_wp2
    go_ret
    obtain ⟨h1, _, h3⟩ := HLF.out _ (pw_below_drewN HD.out _)
    exact ⟨v, by rw [HR.out]; rfl, by rw [HR.out]; exact h1, h3, fun k hk => .inl hk⟩
  have d3 := decide_eq_false t3
  have HT := Aside0.mk (show ¬ (x.f0 < 0 ∨ x.f0 > 1000000000000 ∨ x.f0 < s.now) from fun h => h.elim t1 (fun h => h.elim t2 t3))
  clear t1 t2 t3
  cases hcb : compB s x.f0 with
  | true =>
    have HR := Aside0.mk (HE.out (8, s) HKV2.out (by rw [if_neg HT.out, if_pos hcb]))
    have CC := Aside0.mk (fun (X : World) (hX : Below W1.heap.size W1 X) => complete_calls g v s x.f0 X (HLF.out X hX).1 HL.out)
    rw [hcb] at CC
    clear hcb HE
    go_wp2
    go_quiet (fail)
    go_upto_region 5 with (fail)
    have hq := pw_below_drewN HD.out nq
    have q0 : (W2.drewN nq).cell? ⟨b, 0, none⟩ = some (.int .i64 x.f0) := x0
    go_wp2_with (go_at_call 54; refine (CC.out _ hq).mono ?_; rintro e w5 ⟨rfl, hb5⟩; have HB5 := Aside0.mk (hq.trans (hb5.mono hq.size)); clear hb5)
    go_ret
    obtain ⟨h1, _, h3⟩ := HLF.out _ HB5.out
    exact ⟨v, by rw [HR.out]; rfl, by rw [HR.out]; exact h1, h3, fun k hk => .inl hk⟩
  | false =>
    have HR := Aside0.mk (HE.out (0, ⟨s.delay, x.f0, s.es ++ [x]⟩) HKV2.out (by rw [if_neg HT.out, hcb]; rfl))
    have CC := Aside0.mk (fun (X : World) (hX : Below W1.heap.size W1 X) => complete_calls g v s x.f0 X (HLF.out X hX).1 HL.out)
    rw [hcb] at CC
    clear hcb HE
    go_wp2
    go_quiet (fail)
    go_upto_region 5 with (fail)
    have hq := pw_below_drewN HD.out nq
    have q0 : (W2.drewN nq).cell? ⟨b, 0, none⟩ = some (.int .i64 x.f0) := x0
    go_upto_region 7 with (go_at_call 54; refine (CC.out _ hq).mono ?_; rintro e w5 ⟨rfl, hb5⟩; have HB5 := Aside0.mk (hq.trans (hb5.mono hq.size)); clear hb5)
    obtain ⟨hI5, hk5, hc5⟩ := HLF.out _ HB5.out
    have HI5 := Aside0.mk hI5
    have HK5 := Aside0.mk hk5
    have HC5 := Aside0.mk hc5
    clear hI5 hk5 hc5 q0 hq g1 d1 d2 d3 x0
    have x0 : w5.cell? ⟨b, 0, none⟩ = some (.int .i64 x.f0) := (cells_of_blk HK5.out 0).trans rfl
    have g1 : w5.cell? ⟨g, 1, none⟩ = some (.int .i64 s.now) := (cells_of_blk HI5.out.1 1).trans rfl
    have f1 := free_of_blk HI5.out.1 1
    go_upto_region 8 with (fail)
    obtain ⟨W6, hW6⟩ : ∃ W6, w5.setCell ⟨g, 1, none⟩ (.int .i64 x.f0) = W6 := ⟨_, rfl⟩
    obtain ⟨V, c, hv⟩ := Kd.R_slice HI5.out.2
    subst hv
    have hI6 : WI 90 g (.slice V s.es.length c) { s with now := x.f0 } W6 := by rw [← hW6]; exact HI5.out.now_ x.f0
    have hk6 : W6.heap[b]? = some (.cells #[.int .i64 x.f0, .string x.f1, .int .i64 x.f2] 58 (0, 0)) := by rw [← hW6]; exact hb_far HK5.out (by have := HGB.out; show b ≠ g; omega) _
    have hc6 : Chg (fun k => k = g ∨ some k = (Value.slice V s.es.length c).ownBlock) w W6 := by rw [← hW6]; exact HC5.out.trans (Chg.set (S := fun k => k = g ∨ some k = (Value.slice V s.es.length c).ownBlock) w5 ⟨g, 1, none⟩ _ (.inl rfl)) (fun _ _ e => e)
    rw [hW6]
    have HI6 := Aside0.mk hI6
    have HK6 := Aside0.mk hk6
    have HC6 := Aside0.mk hc6
    clear x0 g1 f1 hW6 hI6 hk6 hc6
    have HSS := Aside0.mk (show ∀ X : World, X.heap[g]? = W6.heap[g]? → X.heap[b]? = W6.heap[b]? → (X.cell? ⟨g, 2, none⟩ = some (.slice V s.es.length c) ∧ X.cell? ⟨b, 0, none⟩ = some (.int .i64 x.f0) ∧ X.cell? ⟨b, 1, none⟩ = some (.string x.f1) ∧ X.cell? ⟨b, 2, none⟩ = some (.int .i64 x.f2)) from fun X hg hb => by
      have h1 := hg.trans HI6.out.1
      have h2 := hb.trans HK6.out
      exact ⟨(cells_of_blk h1 2).trans rfl, (cells_of_blk h2 0).trans rfl, (cells_of_blk h2 1).trans rfl, (cells_of_blk h2 2).trans rfl⟩)
    refine start_ (n := 11) (S := fun w' => w'.cell? ⟨g, 2, none⟩ = some (.slice V s.es.length c) ∧ w'.cell? ⟨b, 0, none⟩ = some (.int .i64 x.f0) ∧ w'.cell? ⟨b, 1, none⟩ = some (.string x.f1) ∧ w'.cell? ⟨b, 2, none⟩ = some (.int .i64 x.f2)) (ds := [10]) #[false, false, false, false, false, false, false, false, false, false, false] (by kernel_rfl) rfl rfl (HSS.out _ rfl rfl) (fun hHeld => ?_)
    refine pure_ (i := 0) (N := some 38) (v := ?_) (a' := ?_) #[true, false, false, false, false, false, false, false, false, false, false] rfl rfl (by kernel_rfl) (fun _ _ _ h => h) (Or.inl ⟨by rfl, ?_⟩) ?_ ?_
    rotate_left
    · intro w'
      go_simp
      with_reducible rfl
    rotate_left
    · simp only [Act.put, List.setIfInBounds_toArray, List.set_cons_zero, List.set_cons_succ, i64_w, i32_w]
      rfl
    refine pure_ (i := 1) (N := some 39) (v := ?_) (a' := ?_) #[true, true, false, false, false, false, false, false, false, false, false] rfl rfl (by kernel_rfl) (fun _ _ _ h => h) (Or.inl ⟨by rfl, ?_⟩) ?_ ?_
    rotate_left
    · intro w'
      go_simp
      with_reducible rfl
    rotate_left
    · simp only [Act.put, List.setIfInBounds_toArray, List.set_cons_zero, List.set_cons_succ, i64_w, i32_w]
      rfl
    refine pure_ (i := 2) (N := some 40) (v := ?_) (a' := ?_) #[true, true, true, false, false, false, false, false, false, false, false] rfl rfl (by kernel_rfl) (fun _ _ _ h => h) (Or.inl ⟨by rfl, ?_⟩) ?_ ?_
    rotate_left
    · intro w'
      go_simp
      with_reducible rfl
    rotate_left
    · simp only [Act.put, List.setIfInBounds_toArray, List.set_cons_zero, List.set_cons_succ, i64_w, i32_w]
      rfl
    refine pure_ (i := 3) (N := some 41) (v := ?_) (a' := ?_) #[true, true, true, true, false, false, false, false, false, false, false] rfl rfl (by kernel_rfl) (fun _ _ _ h => h) (Or.inl ⟨by rfl, ?_⟩) ?_ ?_
    rotate_left
    · intro w'
      go_simp
      with_reducible rfl
    rotate_left
    · simp only [Act.put, List.setIfInBounds_toArray, List.set_cons_zero, List.set_cons_succ, i64_w, i32_w]
      rfl
    refine take_ (i := 4) (N := some 42) (v := ?_) (a' := ?_) #[true, true, true, true, true, false, false, false, false, false, false] rfl rfl (by kernel_rfl) (fun _ _ _ h => h) (Or.inl ⟨by rfl, ?_⟩) hHeld ?_ ?_
    rotate_left
    · rintro w' ⟨s0_, s1_, s2_, s3_⟩
      go_simp
      with_reducible rfl
    rotate_left
    · simp only [Act.put, List.setIfInBounds_toArray, List.set_cons_zero, List.set_cons_succ, i64_w, i32_w]
      rfl
    refine take_ (i := 5) (N := some 43) (v := ?_) (a' := ?_) #[true, true, true, true, true, true, false, false, false, false, false] rfl rfl (by kernel_rfl) (fun _ _ _ h => h) (Or.inl ⟨by rfl, ?_⟩) hHeld ?_ ?_
    rotate_left
    · rintro w' ⟨s0_, s1_, s2_, s3_⟩
      go_simp
      with_reducible rfl
    rotate_left
    · simp only [Act.put, List.setIfInBounds_toArray, List.set_cons_zero, List.set_cons_succ, i64_w, i32_w]
      rfl
    refine one_ (i := 6) (N := some 44) #[true, true, true, true, true, true, true, false, false, false, false] rfl rfl (by kernel_rfl) (by decide) (fun K hK => ?_)
    refine value_ (v := .slice (some ⟨W6.heap.size, 0, none⟩) 1 1) (w1 := W6.drew.alloc (.cells #[.int .i64 x.f0, .string x.f1, .int .i64 x.f2] 58)) (by rfl) rfl ?_ ?_
    · go_simp
    refine hK.out _ _ (HSS.out _ (Below.heap_alloc _ _ _ (lt_of_blk HI6.out.1)) (Below.heap_alloc _ _ _ (lt_of_blk HK6.out))) (fun hHeld => ?_)
    clear hK K
    refine norm_ (a' := ?_) ?_ ?_
    rotate_left
    · show Act.put _ (some 44) _ = _
      simp only [Act.put, List.setIfInBounds_toArray, List.set_cons_zero, List.set_cons_succ, i64_w, i32_w]
      rfl
    refine one_ (i := 7) (N := some 45) #[true, true, true, true, true, true, true, true, false, false, false] rfl rfl (by kernel_rfl) (by decide) (fun K hK => ?_)
    refine Kd.R_append_step k58 (w0 := W6.drew) 0 (by rfl) (.tmp 42) (.tmp 44) 38 58 (.agg #[.int .i64 0, .string ⟨#[]⟩, .int .i64 0]) 32 rfl Try.underlying38 info58 rfl (by decide) (by omega) (.slice V s.es.length c) s.es x [.int .i64 x.f0, .string x.f1, .int .i64 x.f2] (fun k => (some k = (Value.slice V s.es.length c).ownBlock ∧ k ≠ g) ∨ W6.heap.size ≤ k) (fun _ => False) rfl rfl (k58_mkM _ _ _ x) (fun _ h => h.elim) (fun k hk => .inr hk) (Kd.R_mono HI6.out.2 (fun _ hk => .inl hk)) (Below.refl _ _) (Nat.zero_le _) (by have := HL.out; omega) ?_
    intro v5 w7 ho5 hb5 hg5 hat5
    obtain ⟨V5, c5, hv5⟩ := Kd.R_slice ho5
    rw [List.length_append, List.length_singleton] at hv5
    subst hv5
    obtain ⟨e1, e2, e3, e4⟩ := WI.appended (w := w) x.f0 HI6.out HC6.out HC6.out.size ho5 ⟨hg5.os, hg5.tape, hg5.output, hg5.size, hg5.block⟩ hat5
    have e5 := hg5.block b (lt_of_blk HK6.out) (fun h => by
      have h1 := HI.out.own_lt h.symm
      have := HBW.out
      omega)
    have e6 : w7.heap[g]? = W6.heap[g]? := e2.trans HI6.out.1.symm
    have E1 := Aside0.mk e1
    have E2 := Aside0.mk e2
    have E3 := Aside0.mk e3
    have E4 := Aside0.mk e4
    clear ho5 hb5 hg5 hat5 e1 e2 e3 e4
    refine hK.out _ _ (HSS.out _ e6 e5) (fun hHeld => ?_)
    clear hK K
    refine norm_ (a' := ?_) ?_ ?_
    rotate_left
    · show Act.put _ (some 45) _ = _
      simp only [Act.put, List.setIfInBounds_toArray, List.set_cons_zero, List.set_cons_succ, i64_w, i32_w]
      rfl
    clear e5 e6
    refine pure_ (i := 8) (N := some 46) (v := ?_) (a' := ?_) #[true, true, true, true, true, true, true, true, true, false, false] rfl rfl (by kernel_rfl) (fun _ _ _ h => h) (Or.inl ⟨by rfl, ?_⟩) ?_ ?_
    rotate_left
    · intro w'
      go_simp
      with_reducible rfl
    rotate_left
    · simp only [Act.put, List.setIfInBounds_toArray, List.set_cons_zero, List.set_cons_succ, i64_w, i32_w]
      rfl
    refine pure_ (i := 9) (N := some 47) (v := ?_) (a' := ?_) #[true, true, true, true, true, true, true, true, true, true, false] rfl rfl (by kernel_rfl) (fun _ _ _ h => h) (Or.inl ⟨by rfl, ?_⟩) ?_ ?_
    rotate_left
    · intro w'
      go_simp
      with_reducible rfl
    rotate_left
    · simp only [Act.put, List.setIfInBounds_toArray, List.set_cons_zero, List.set_cons_succ, i64_w, i32_w]
      rfl
    refine last_ (i := 10) (N := none) #[true, true, true, true, true, true, true, true, true, true, true] rfl rfl (by kernel_rfl) (by decide) (fun K hK => ?_)
    have s5 := (cells_of_blk E2.out 2).trans rfl
    have sf5 := free_of_blk E2.out 2
    refine skip_ (w1 := w7.setCell ⟨g, 2, none⟩ (.slice V5 (s.es.length + 1) c5)) (by rfl) rfl ?_ ?_
    · go_simp
    refine hK.out _ _ (done_ (by kernel_rfl) ?_)
    clear hK K s5 sf5 hHeld
    go_wp2
    go_ret
    refine ⟨.slice V5 (s.es.length + 1) c5, by rw [HR.out]; rfl, ?_, ?_, E4.out⟩
    · rw [HR.out]
      refine E1.out _ ?_ (fun k hk => Below.heap_setCell _ _ _ _ (by show k ≠ g; exact hk))
      have h := hb_set E2.out 2 (.slice V5 (s.es.length + 1) c5)
      exact h
    · exact E3.out.trans (Chg.set (S := fun k => k = g ∨ some k = (Value.slice V s.es.length c).ownBlock) w7 ⟨g, 2, none⟩ _ (.inl rfl)) (fun _ _ e => e)
end Go.Proofs.Ytcikmpcacakfbaa.QFilewatchBatches
