/-
  filewatch.Watcher.Poll (function 29).
-/
import Derived.Test.YtcikmpcacakfbaaHandFwW
namespace Go.Proofs.Ytcikmpcacakfbaa.QFilewatchBatches
open Go.RowKit Go.Proofs.YtcikmpcacakfbaaW.PrintWords Go.Proofs.YtcikmpcacakfbaaW.PrintLast Go.Proofs.YtcikmpcacakfbaaW.PrintMore Go.Proofs.Ytcikmpcacakfbaa.Hand
set_option linter.unusedVariables false
set_option linter.unusedSimpArgs false
theorem results_ct1 {P : Program} {fn : Func} {p q : Tmp} {ty : TypeId} (h : fn.results = #[.cell p ty, .tmp q]) (tmps : Array Value) (w : World) (g : Nat) (t : TypeId) (cs : Array Value) (fr : Nat × Nat) (d : TypeDesc)
    (hp : tmps.getD p undef = .pointer (some ⟨g, 0, none⟩)) (hg : w.heap[g]? = some (.cells cs t fr))
    (hu : P.underlying ty = some d) (hd : (match d with | .struct _ | .array _ _ => true | _ => false) = true) (hi : (P.info? ty).map (·.size) = some cs.size) :
    (results fn tmps).run P w = .ok (.tuple #[.agg cs, tmps.getD q undef]) w := by
  have hp' : tmps[p]?.getD undef = .pointer (some ⟨g, 0, none⟩) := by simpa using hp
  simp [results, h, hp', asAddr, run_loadVar_row w g t ty cs fr d hg hu hd hi]
/-- What Poll answers, and the watcher behind it; batch: the batch of the events at hand. -/
def pollR (full : WS → Int → Bool) (batch : WS → Int × List S58) (s : WS) (now : Int) : Int × List S58 × Bool × WS :=
  if now < s.now then (0, [], false, s) else
  if full { s with now := now } now = false then (0, [], false, { s with now := now }) else
  if (batch s).2.length = 0 then (0, [], false, ⟨s.delay, now, []⟩) else ((batch s).1, (batch s).2, true, ⟨s.delay, now, []⟩)
def goPoll : WS → Int → Int × List S58 × Bool × WS := pollR compB (fun s => (nbTime s.es s.delay, nbR s.es))
def PollPost (t g : Nat) (v : Value) (r : Int × List S58 × Bool × WS) (w : World) (e : Ending) (w' : World) : Prop :=
  ∃ v1 v', e = .returned (.tuple #[.agg #[.int .i64 r.1, v1], .bool r.2.2.1]) ∧ Kd.R k58 58 w' w.heap.size (fun _ => True) v1 r.2.1 ∧ WI t g v' r.2.2.2 w' ∧ Chg (fun k => k = g ∨ some k = v.ownBlock) w w' ∧ ∀ k, v'.ownBlock = some k → v.ownBlock = some k ∨ w.heap.size ≤ k
theorem WI.now_ {t g : Nat} {v : Value} {s : WS} {W : World} (h : WI t g v s W) (n : Int) : WI t g v { s with now := n } (W.setCell ⟨g, 1, none⟩ (.int .i64 n)) :=
  ⟨by have := hb_set h.1 1 (.int .i64 n); exact this, Kd.R_step h.2 (fun k hk _ => Below.heap_setCell _ _ _ _ hk.2)⟩
theorem compB_pos {s : WS} {n : Int} (h : compB s n = true) : 0 < s.es.length := by
  unfold compB at h
  by_cases c : s.es.length = 0
  · rw [if_pos c] at h; cases h
  · omega
set_option maxRecDepth 100000 in
set_option maxHeartbeats 16000000 in
theorem poll_calls (g : Nat) (v : Value) (s : WS) (now : Int) (w : World) (hI : WI 90 g v s w) (hl : s.es.length < 100000) (hs : ∀ e ∈ s.es, e.f1.size ≤ maxLen) :
    Calls Try.prog 29 #[.pointer (some ⟨g, 0, none⟩), .int .i64 now] w (PollPost 90 g v (goPoll s now) w) := by
  have HI := Aside0.mk hI
  have HL := Aside0.mk hl
  have HS := Aside0.mk hs
  have hu90 := Try.underlying90
  clear hI hl hs
  go_enter Try.func29, Try.ntmps29
  go_upto_region 1 with (fail)
  obtain ⟨b, hb⟩ : ∃ b, w.heap.size = b := ⟨_, rfl⟩
  have HBW := Aside0.mk hb
  have HGB := Aside0.mk (show g < b by rw [← hb]; exact HI.out.lt)
  obtain ⟨W1, hW1⟩ : ∃ W1, w.alloc (.cells #[.int .i64 0, .slice none 0 0] 60) = W1 := ⟨_, rfl⟩
  have hb1 : Below b w W1 := by rw [← hb, ← hW1]; exact below_alloc (Below.refl _ _) _
  have hk1 : W1.heap[b]? = some (.cells #[.int .i64 0, .slice none 0 0] 60 (0, 0)) := by rw [← hb, ← hW1]; exact hb_new _ _
  have hI1 : WI 90 g v s W1 := HI.out.below (by rw [hb]; exact hb1)
  rw [hW1, hb]
  have HB1 := Aside0.mk hb1
  have HK1 := Aside0.mk hk1
  have HI1 := Aside0.mk hI1
  have x1 : W1.cell? ⟨g, 1, none⟩ = some (.int .i64 s.now) := (cells_of_blk hI1.1 1).trans rfl
  have f1 := free_of_blk hI1.1 1
  clear hb1 hk1 hI1 hb hW1
  have z0 : ∀ X : World, X.heap[b]? = some (.cells #[.int .i64 0, .slice none 0 0] 60 (0, 0)) → ((X.setCell ⟨b, 0, none⟩ (.int .i64 0)).setCell ⟨b, 1, none⟩ (.slice none 0 0)).heap[b]? = some (.cells #[.int .i64 0, .slice none 0 0] 60 (0, 0)) := fun X h => by
    have h2 := hb_set (hb_set h 0 (.int .i64 0)) 1 (.slice none 0 0)
    exact h2
  have HZ0 := Aside0.mk z0
  -- nothing comes back
  have none_ : ∀ (X : World) (s' : WS) (bo : Bool), X.heap[b]? = some (.cells #[.int .i64 0, .slice none 0 0] 60 (0, 0)) → WI 90 g v s' X → Chg (fun k => k = g ∨ some k = v.ownBlock) w X → WI 90 g v s' ((X.setCell ⟨b, 0, none⟩ (.int .i64 0)).setCell ⟨b, 1, none⟩ (.slice none 0 0)) ∧ Chg (fun k => k = g ∨ some k = v.ownBlock) w ((X.setCell ⟨b, 0, none⟩ (.int .i64 0)).setCell ⟨b, 1, none⟩ (.slice none 0 0)) := by
    intro X s' bo hX hw hc
    have hvb : ∀ k, v.ownBlock = some k → k ≠ b := fun k hk => by have := HI.out.own_lt hk; have := HBW.out; omega
    have hgb := HGB.out
    have c2 : Chg (fun k => k = b) X ((X.setCell ⟨b, 0, none⟩ (.int .i64 0)).setCell ⟨b, 1, none⟩ (.slice none 0 0)) := (Chg.set (S := fun k => k = b) X ⟨b, 0, none⟩ _ rfl).trans (Chg.set (S := fun k => k = b) _ ⟨b, 1, none⟩ _ rfl) (fun _ _ e => e)
    exact ⟨hw.move c2 (by omega) hvb, hc.trans c2 (fun k h1 h2 => absurd h1 (by have := HBW.out; omega))⟩
  have HN := Aside0.mk none_
  clear none_ z0
  by_cases c1 : now < s.now
  · have b1 := decide_eq_true c1
    have HR := Aside0.mk (show goPoll s now = (0, [], false, s) by unfold goPoll pollR; rw [if_pos c1])
    have hk1 := HK1.out
    have y0 : W1.cell? ⟨b, 0, none⟩ = some (.int .i64 0) := (cells_of_blk hk1 0).trans rfl
    have y1 : W1.cell? ⟨b, 1, none⟩ = some (.slice none 0 0) := (cells_of_blk hk1 1).trans rfl
    have g0 := free_of_blk hk1 0
    have g1 := free_of_blk hk1 1
    clear c1 hk1 f1
    go_wp2
    refine bodyPost_ret (results_ct1 (d := _) rfl _ _ b 60 #[.int .i64 0, .slice none 0 0] (0, 0) rfl (HZ0.out W1 HK1.out) Try.underlying60 rfl (by kernel_rfl)) rfl ?_
    obtain ⟨h1, h2⟩ := HN.out W1 s false HK1.out HI1.out (Chg.of_new (by rw [HBW.out]; exact HB1.out))
    refine ⟨.slice none 0 0, v, by rw [HR.out]; rfl, by rw [HR.out]; exact Kd.R_nil _ _ _ _ _, by rw [HR.out]; exact h1, h2, fun k hk => .inl hk⟩
  · have b1 := decide_eq_false c1
    go_upto_region 4 with (fail)
    obtain ⟨W3, hW3⟩ : ∃ W3, W1.setCell ⟨g, 1, none⟩ (.int .i64 now) = W3 := ⟨_, rfl⟩
    have hI3 : WI 90 g v { s with now := now } W3 := by rw [← hW3]; exact HI1.out.now_ now
    have hk3 : W3.heap[b]? = some (.cells #[.int .i64 0, .slice none 0 0] 60 (0, 0)) := by rw [← hW3]; exact hb_far HK1.out (by have := HGB.out; show b ≠ g; omega) _
    have hc3 : Chg (fun k => k = g ∨ some k = v.ownBlock) w W3 := by rw [← hW3]; exact (Chg.of_new (by rw [HBW.out]; exact HB1.out)).trans (Chg.set (S := fun k => k = g ∨ some k = v.ownBlock) W1 ⟨g, 1, none⟩ _ (.inl rfl)) (fun _ _ e => e)
    rw [hW3]
    have HI3 := Aside0.mk hI3
    have HK3 := Aside0.mk hk3
    have HC3 := Aside0.mk hc3
    clear hW3 hI3 hk3 hc3 x1 f1 b1
    have CC := Aside0.mk (complete_calls g v { s with now := now } now W3 HI3.out HL.out)
    cases hcb : compB { s with now := now } now with
    | false =>
      have HR := Aside0.mk (show goPoll s now = (0, [], false, { s with now := now }) by unfold goPoll pollR; rw [if_neg c1, if_pos hcb])
      have HCB := Aside0.mk hcb
      clear c1 hcb
      go_upto_region 5 with (go_at_call 54; refine CC.out.mono ?_; rw [HCB.out]; rintro e w4 ⟨rfl, hb4⟩; have HB4 := Aside0.mk hb4; have hk4 := (hb4.block _ (lt_of_blk HK3.out)).trans HK3.out; have y0 : w4.cell? ⟨b, 0, none⟩ = some (.int .i64 0) := (cells_of_blk hk4 0).trans rfl; have y1 : w4.cell? ⟨b, 1, none⟩ = some (.slice none 0 0) := (cells_of_blk hk4 1).trans rfl; have g0 := free_of_blk hk4 0; have g1 := free_of_blk hk4 1; have HK4 := Aside0.mk hk4; clear hb4 hk4)
      go_wp2
      refine bodyPost_ret (results_ct1 (d := _) rfl _ _ b 60 #[.int .i64 0, .slice none 0 0] (0, 0) rfl (HZ0.out w4 HK4.out) Try.underlying60 rfl (by kernel_rfl)) rfl ?_
      obtain ⟨h1, h2⟩ := HN.out w4 { s with now := now } false HK4.out (HI3.out.below HB4.out) (HC3.out.trans (Chg.of_new (S := fun k => k = g ∨ some k = v.ownBlock) HB4.out) (fun _ _ e => e))
      exact ⟨.slice none 0 0, v, by rw [HR.out]; rfl, by rw [HR.out]; exact Kd.R_nil _ _ _ _ _, by rw [HR.out]; exact h1, h2, fun k hk => .inl hk⟩
    | true =>
      have HPOS := Aside0.mk (show 0 < s.es.length from compB_pos hcb)
      have HCT := Aside0.mk (show goPoll s now = (if (nbR s.es).length = 0 then (0, [], false, ⟨s.delay, now, []⟩) else (nbTime s.es s.delay, nbR s.es, true, ⟨s.delay, now, []⟩)) by unfold goPoll pollR; rw [if_neg c1, if_neg (by rw [hcb]; simp)])
      have HCB := Aside0.mk hcb
      clear c1 hcb
      go_upto_region 6 with (go_at_call 54; refine CC.out.mono ?_; rw [HCB.out]; rintro e w4 ⟨rfl, hb4⟩; have HI4 := Aside0.mk (HI3.out.below hb4); have HK4 := Aside0.mk ((hb4.block _ (lt_of_blk HK3.out)).trans HK3.out); have HC4 := Aside0.mk (HC3.out.trans (Chg.of_new (S := fun k => k = g ∨ some k = v.ownBlock) hb4) (fun _ _ e => e)); clear hb4)
      obtain ⟨A, c, hv⟩ := Kd.R_slice HI.out.2
      subst hv
      have hCE := (Kd.R_reads' HI4.out.2).2.2
      have HCE := Aside0.mk hCE
      have HSS := Aside0.mk (show ∀ X : World, Below w4.heap.size w4 X → (X.cell? ⟨g, 2, none⟩ = some (.slice A s.es.length c) ∧ X.cell? ⟨g, 0, none⟩ = some (.int .i64 s.delay)) from fun X hX => by
        have h := (hX.block g HI4.out.lt).trans HI4.out.1
        exact ⟨(cells_of_blk h 2).trans rfl, (cells_of_blk h 0).trans rfl⟩)
      obtain ⟨T, hT⟩ : ∃ T, nbTime s.es s.delay = T := ⟨_, rfl⟩
      obtain ⟨evs, hE⟩ : ∃ evs, nbR s.es = evs := ⟨_, rfl⟩
      rw [hT, hE] at HCT
      have HNB := Aside0.mk (show ∀ X : World, Below w4.heap.size w4 X → Calls Try.prog 47 #[.slice A s.es.length c, .int .i64 s.delay] X fun e w' => ∃ v, e = .returned (.agg #[.int .i64 T, v]) ∧ Kd.R k58 58 w' X.heap.size (fun _ => True) v evs ∧ Below X.heap.size X w' from fun X hX => by
        have h := newBatch_calls A c s.es s.delay X (Kd.C_below HCE.out hX) HL.out HPOS.out HS.out
        refine h.mono ?_
        rintro e w' ⟨v, rfl, h1, h2⟩
        rw [hT]
        rw [hE] at h1
        exact ⟨v, rfl, h1, h2⟩)
      clear hCE hT hE CC HCB
      refine start_ (n := 11) (S := fun w' => w'.cell? ⟨g, 2, none⟩ = some (.slice A s.es.length c) ∧ w'.cell? ⟨g, 0, none⟩ = some (.int .i64 s.delay)) (ds := ([] : List Nat)) #[false, false, false, false, false, false, false, false, false, false, false] (by kernel_rfl) rfl rfl (HSS.out _ (below_drew1 (Below.refl _ _))) (fun hHeld => ?_)
      refine pure_ (i := 0) (N := some 23) (v := ?_) (a' := ?_) #[true, false, false, false, false, false, false, false, false, false, false] rfl rfl (by kernel_rfl) (fun _ _ _ h => h) (Or.inl ⟨by rfl, ?_⟩) ?_ ?_
      rotate_left
      · intro w'
        go_simp
        with_reducible rfl
      rotate_left
      · simp only [Act.put, List.setIfInBounds_toArray, List.set_cons_zero, List.set_cons_succ, i64_w, i32_w]
        rfl
      refine pure_ (i := 1) (N := some 24) (v := ?_) (a' := ?_) #[true, true, false, false, false, false, false, false, false, false, false] rfl rfl (by kernel_rfl) (fun _ _ _ h => h) (Or.inl ⟨by rfl, ?_⟩) ?_ ?_
      rotate_left
      · intro w'
        go_simp
        with_reducible rfl
      rotate_left
      · simp only [Act.put, List.setIfInBounds_toArray, List.set_cons_zero, List.set_cons_succ, i64_w, i32_w]
        rfl
      refine pure_ (i := 2) (N := some 25) (v := ?_) (a' := ?_) #[true, true, true, false, false, false, false, false, false, false, false] rfl rfl (by kernel_rfl) (fun _ _ _ h => h) (Or.inl ⟨by rfl, ?_⟩) ?_ ?_
      rotate_left
      · intro w'
        go_simp
        with_reducible rfl
      rotate_left
      · simp only [Act.put, List.setIfInBounds_toArray, List.set_cons_zero, List.set_cons_succ, i64_w, i32_w]
        rfl
      refine pure_ (i := 4) (N := some 27) (v := ?_) (a' := ?_) #[true, true, true, false, true, false, false, false, false, false, false] rfl rfl (by kernel_rfl) (fun _ _ _ h => h) (Or.inl ⟨by rfl, ?_⟩) ?_ ?_
      rotate_left
      · intro w'
        go_simp
        with_reducible rfl
      rotate_left
      · simp only [Act.put, List.setIfInBounds_toArray, List.set_cons_zero, List.set_cons_succ, i64_w, i32_w]
        rfl
      refine pure_ (i := 5) (N := some 28) (v := ?_) (a' := ?_) #[true, true, true, false, true, true, false, false, false, false, false] rfl rfl (by kernel_rfl) (fun _ _ _ h => h) (Or.inl ⟨by rfl, ?_⟩) ?_ ?_
      rotate_left
      · intro w'
        go_simp
        with_reducible rfl
      rotate_left
      · simp only [Act.put, List.setIfInBounds_toArray, List.set_cons_zero, List.set_cons_succ, i64_w, i32_w]
        rfl
      refine pure_ (i := 6) (N := some 29) (v := ?_) (a' := ?_) #[true, true, true, false, true, true, true, false, false, false, false] rfl rfl (by kernel_rfl) (fun _ _ _ h => h) (Or.inl ⟨by rfl, ?_⟩) ?_ ?_
      rotate_left
      · intro w'
        go_simp
        with_reducible rfl
      rotate_left
      · simp only [Act.put, List.setIfInBounds_toArray, List.set_cons_zero, List.set_cons_succ, i64_w, i32_w]
        rfl
      refine take_ (i := 3) (N := some 26) (v := ?_) (a' := ?_) #[true, true, true, true, true, true, true, false, false, false, false] rfl rfl (by kernel_rfl) (fun _ _ _ h => h) (Or.inl ⟨by rfl, ?_⟩) hHeld ?_ ?_
      rotate_left
      · rintro w' ⟨s0_, s1_⟩
        go_simp
        with_reducible rfl
      rotate_left
      · simp only [Act.put, List.setIfInBounds_toArray, List.set_cons_zero, List.set_cons_succ, i64_w, i32_w]
        rfl
      refine take_ (i := 7) (N := some 30) (v := ?_) (a' := ?_) #[true, true, true, true, true, true, true, true, false, false, false] rfl rfl (by kernel_rfl) (fun _ _ _ h => h) (Or.inl ⟨by rfl, ?_⟩) hHeld ?_ ?_
      rotate_left
      · rintro w' ⟨s0_, s1_⟩
        go_simp
        with_reducible rfl
      rotate_left
      · simp only [Act.put, List.setIfInBounds_toArray, List.set_cons_zero, List.set_cons_succ, i64_w, i32_w]
        rfl
      refine join_ (σ := Nat × Option Addr × Nat) 1 #[true, true, true, true, true, true, true, true, true, true, false] (fun s_ => [(31, .agg #[.int .i64 T, .slice s_.2.1 evs.length s_.2.2]), (6, .pointer (some ⟨s_.1, 0, none⟩))]) (fun s_ w' => w'.heap[s_.1]? = some (.cells #[.int .i64 0, .slice none 0 0] 60 (0, 0)) ∧ Kd.R k58 58 w' w4.heap.size (fun k => k ≠ s_.1) (.slice s_.2.1 evs.length s_.2.2) evs ∧ Below w4.heap.size w4 w' ∧ w4.heap.size ≤ s_.1) ?_ (fun hcont => ?_)
      · rintro ⟨b6, V, cv⟩ w5 ⟨hk6, hr6, hb6, hl6⟩
        refine norm_ (a' := ?_) ?_ ?_
        rotate_left
        · show putAll _ _ = _
          simp only [putAll, Act.put, List.setIfInBounds_toArray, List.set_cons_zero, List.set_cons_succ, i64_w, i32_w]
          rfl
        have HK6 := Aside0.mk hk6
        have HR6 := Aside0.mk hr6
        have HB6 := Aside0.mk hb6
        have HL6 := Aside0.mk hl6
        clear hk6 hr6 hb6 hl6
        refine one_ (i := 10) (N := none) #[true, true, true, true, true, true, true, true, true, true, true] rfl rfl (by kernel_rfl) (by decide) (fun K hK => ?_)
        have s0 : w5.cell? ⟨b6, 0, none⟩ = some (.int .i64 0) := (cells_of_blk HK6.out 0).trans rfl
        have s1 : w5.cell? ⟨b6, 1, none⟩ = some (.slice none 0 0) := (cells_of_blk HK6.out 1).trans rfl
        have f0 := free_of_blk HK6.out 0
        have f1 := free_of_blk HK6.out 1
        refine skip_ (w1 := (w5.setCell ⟨b6, 0, none⟩ (.int .i64 T)).setCell ⟨b6, 1, none⟩ (.slice V evs.length cv)) (by rfl) rfl ?_ ?_
        · go_simp
        clear s0 s1 f0 f1
        obtain ⟨W6, hW6⟩ : ∃ W6, (w5.setCell ⟨b6, 0, none⟩ (.int .i64 T)).setCell ⟨b6, 1, none⟩ (.slice V evs.length cv) = W6 := ⟨_, rfl⟩
        have hk6 : W6.heap[b6]? = some (.cells #[.int .i64 T, .slice V evs.length cv] 60 (0, 0)) := by
          rw [← hW6]
          have h := hb_set (hb_set HK6.out 0 (.int .i64 T)) 1 (.slice V evs.length cv)
          exact h
        have hr6 : Kd.R k58 58 W6 w4.heap.size (fun k => k ≠ b6) (.slice V evs.length cv) evs := by
          rw [← hW6]
          exact Kd.R_step HR6.out (fun k hk _ => (Below.heap_setCell _ _ _ _ (by show k ≠ b6; exact hk)).trans (Below.heap_setCell _ _ _ _ (by show k ≠ b6; exact hk)))
        have hb6 : Below w4.heap.size w4 W6 := by rw [← hW6]; exact (HB6.out.setCell HL6.out _).setCell HL6.out _
        rw [hW6]
        have HK7 := Aside0.mk hk6
        have HR7 := Aside0.mk hr6
        have HB7 := Aside0.mk hb6
        clear hW6 hk6 hr6 hb6
        refine hK.out _ _ (HSS.out _ HB7.out) (fun hHeld => ?_)
        clear hK K
        refine done_ (by kernel_rfl) ?_
        clear hHeld
        have hI6 := HI4.out.below HB7.out
        have f2 := free_of_blk hI6.1 2
        have hbg : b < w4.heap.size := lt_of_blk HK4.out
        have hkb := (HB7.out.block b hbg).trans HK4.out
        have HI6 := Aside0.mk hI6
        have HKB := Aside0.mk hkb
        have HBG := Aside0.mk hbg
        have x2 : W6.cell? ⟨g, 2, none⟩ = some (.slice A s.es.length c) := (cells_of_blk hI6.1 2).trans rfl
        clear hI6 hbg hkb
        go_upto_region 8 with (fail)
        clear x2 f2
        obtain ⟨W7, hW7⟩ : ∃ W7, W6.setCell ⟨g, 2, none⟩ (.slice none 0 0) = W7 := ⟨_, rfl⟩
        have hgl : g < w4.heap.size := HI4.out.lt
        have hI7 : WI 90 g (.slice none 0 0) ⟨s.delay, now, []⟩ W7 := by
          refine ⟨?_, Kd.R_nil _ _ _ _ _⟩
          rw [← hW7]
          have h := hb_set HI6.out.1 2 (.slice none 0 0)
          exact h
        have hkb7 : W7.heap[b]? = some (.cells #[.int .i64 0, .slice none 0 0] 60 (0, 0)) := by rw [← hW7]; exact hb_far HKB.out (by have := HGB.out; show b ≠ g; omega) _
        have hk67 : W7.heap[b6]? = some (.cells #[.int .i64 T, .slice V evs.length cv] 60 (0, 0)) := by rw [← hW7]; exact hb_far HK7.out (by have := HL6.out; show b6 ≠ g; omega) _
        have hr67 : Kd.R k58 58 W7 w4.heap.size (fun k => k ≠ b6) (.slice V evs.length cv) evs := by
          rw [← hW7]
          exact Kd.R_mono (Kd.R_step (Kd.R_bound HR7.out) (fun k hk _ => Below.heap_setCell _ _ _ _ (by have := hk.2.1; show k ≠ g; omega))) (fun k hk => hk.1)
        have hc7 : Chg (fun k => k = g ∨ some k = (Value.slice A s.es.length c).ownBlock) w W7 := by
          rw [← hW7]
          exact (HC4.out.trans (Chg.of_new (S := fun k => k = g ∨ some k = (Value.slice A s.es.length c).ownBlock) HB7.out) (fun _ _ e => e)).trans (Chg.set (S := fun k => k = g ∨ some k = (Value.slice A s.es.length c).ownBlock) W6 ⟨g, 2, none⟩ _ (.inl rfl)) (fun _ _ e => e)
        rw [hW7]
        have HI7 := Aside0.mk hI7
        have HKB7 := Aside0.mk hkb7
        have HK67 := Aside0.mk hk67
        have HR67 := Aside0.mk hr67
        have HC7 := Aside0.mk hc7
        clear hW7 hgl hI7 hkb7 hk67 hr67 hc7
        have x0 : W7.cell? ⟨b6, 0, none⟩ = some (.int .i64 T) := (cells_of_blk HK67.out 0).trans rfl
        have x1 : W7.cell? ⟨b6, 1, none⟩ = some (.slice V evs.length cv) := (cells_of_blk HK67.out 1).trans rfl
        have y0 : W7.cell? ⟨b, 0, none⟩ = some (.int .i64 0) := (cells_of_blk HKB7.out 0).trans rfl
        have y1 : W7.cell? ⟨b, 1, none⟩ = some (.slice none 0 0) := (cells_of_blk HKB7.out 1).trans rfl
        have g0 := free_of_blk HKB7.out 0
        have g1 := free_of_blk HKB7.out 1
        by_cases hz : evs.length = 0
        · have b1 : ((evs.length : Int) == 0) = true := by simpa using hz
          have b2 : (evs.length == 0) = true := by simpa using hz
          have HR := Aside0.mk (show goPoll s now = (0, [], false, ⟨s.delay, now, []⟩) by rw [HCT.out, if_pos hz])
          have b3 : decide (evs = []) = true := by simpa using hz
          clear hz
          go_wp2
          refine bodyPost_ret (results_ct1 (d := _) rfl _ _ b 60 #[.int .i64 0, .slice none 0 0] (0, 0) rfl (HZ0.out W7 HKB7.out) Try.underlying60 rfl (by kernel_rfl)) rfl ?_
          have hgb := HGB.out
          have c2 : Chg (fun k => k = b) W7 ((W7.setCell ⟨b, 0, none⟩ (.int .i64 0)).setCell ⟨b, 1, none⟩ (.slice none 0 0)) := (Chg.set (S := fun k => k = b) W7 ⟨b, 0, none⟩ _ rfl).trans (Chg.set (S := fun k => k = b) _ ⟨b, 1, none⟩ _ rfl) (fun _ _ e => e)
          exact ⟨.slice none 0 0, .slice none 0 0, by rw [HR.out]; rfl, by rw [HR.out]; exact Kd.R_nil _ _ _ _ _, by rw [HR.out]; exact HI7.out.move c2 (by omega) (fun k hk => by cases hk), HC7.out.trans c2 (fun k h1 h2 => absurd h1 (by have := HBW.out; omega)), fun k hk => by cases hk⟩
        · have b1 : ((evs.length : Int) == 0) = false := by simpa using hz
          have b2 : (evs.length == 0) = false := by simpa using hz
          have HR := Aside0.mk (show goPoll s now = (T, evs, true, ⟨s.delay, now, []⟩) by rw [HCT.out, if_neg hz])
          clear hz
          go_wp2
          refine bodyPost_ret (results_ct1 (d := _) rfl _ _ b 60 #[.int .i64 T, .slice V evs.length cv] (0, 0) rfl (by have h := hb_set (hb_set HKB7.out 0 (.int .i64 T)) 1 (.slice V evs.length cv); exact h) Try.underlying60 rfl (by kernel_rfl)) rfl ?_
          have hgb := HGB.out
          have hbg := HBG.out
          have hww := HBW.out
          have c2 : Chg (fun k => k = b) W7 ((W7.setCell ⟨b, 0, none⟩ (.int .i64 T)).setCell ⟨b, 1, none⟩ (.slice V evs.length cv)) := (Chg.set (S := fun k => k = b) W7 ⟨b, 0, none⟩ _ rfl).trans (Chg.set (S := fun k => k = b) _ ⟨b, 1, none⟩ _ rfl) (fun _ _ e => e)
          refine ⟨.slice V evs.length cv, .slice none 0 0, by rw [HR.out]; rfl, ?_, by rw [HR.out]; exact HI7.out.move c2 (by omega) (fun k hk => by cases hk), HC7.out.trans c2 (fun k h1 h2 => absurd h1 (by omega)), fun k hk => by cases hk⟩
          rw [HR.out]
          exact Kd.R_lower (Kd.R_mono (Kd.R_step (Kd.R_bound HR67.out) (fun k hk _ => c2.block k hk.2.2.1 (by have := hk.2.1; omega))) (fun _ _ => trivial)) (by omega)
      · refine two_ (i := 8) (j := 9) (Ni := some 31) (Nj := some 6) #[true, true, true, true, true, true, true, true, true, false, false] #[true, true, true, true, true, true, true, true, false, true, false] rfl rfl rfl rfl (by kernel_rfl) (by decide) (by decide) (fun K hK => ?_) (fun K hK => ?_)
        · refine goes_ Try.func47 (by kernel_rfl) rfl #[.slice A s.es.length c, .int .i64 s.delay] (by rfl) rfl rfl (by (try simp only [List.map_toArray, List.map_cons, List.map_nil]); first | done | rfl) ?_
          refine (HNB.out _ (below_drew1 (Below.refl w4.heap.size w4))).mono ?_
          rintro e w5 ⟨v5, rfl, hr5, hb5⟩
          refine ⟨_, rfl, ?_⟩
          obtain ⟨V, cv, hv5⟩ := Kd.R_slice hr5
          subst hv5
          have hb45 : Below w4.heap.size w4 w5 := (below_drew1 (Below.refl w4.heap.size w4)).trans hb5
          have HB5 := Aside0.mk hb45
          have HR5 := Aside0.mk hr5
          clear hr5 hb5 hb45
          refine hK.out _ _ (HSS.out _ HB5.out) (fun hHeld => ?_)
          clear hK K
          refine norm_ (a' := ?_) ?_ ?_
          rotate_left
          · show Act.put _ (some 31) _ = _
            simp only [Act.put, List.setIfInBounds_toArray, List.set_cons_zero, List.set_cons_succ, i64_w, i32_w]
            rfl
          refine one_ (i := 9) (N := some 6) #[true, true, true, true, true, true, true, true, true, true, false] rfl rfl (by kernel_rfl) (by decide) (fun K hK => ?_)
          refine value_ (v := .pointer (some ⟨w5.heap.size, 0, none⟩)) (w1 := w5.alloc (.cells #[.int .i64 0, .slice none 0 0] 60)) (by rfl) rfl ?_ ?_
          · go_simp
          have hb6 : Below w4.heap.size w4 (w5.alloc (.cells #[.int .i64 0, .slice none 0 0] 60)) := below_alloc HB5.out _
          refine hK.out _ _ (HSS.out _ hb6) (fun hHeld => ?_)
          clear hK K
          exact hcont (w5.heap.size, V, cv) _ ⟨hb_new _ _, Kd.R_alloc (Kd.R_mono (Kd.R_bound HR5.out) (fun k hk => by have h1 := hk.2.2.1; show k ≠ w5.heap.size; omega)) _, hb6, HB5.out.size⟩
        · refine value_ (v := .pointer (some ⟨w4.heap.size, 0, none⟩)) (w1 := w4.drew.alloc (.cells #[.int .i64 0, .slice none 0 0] 60)) (by rfl) rfl ?_ ?_
          · go_simp
          obtain ⟨W5, hW5⟩ : ∃ W5, w4.drew.alloc (.cells #[.int .i64 0, .slice none 0 0] 60) = W5 := ⟨_, rfl⟩
          have hb5 : Below w4.heap.size w4 W5 := by rw [← hW5]; exact below_alloc (below_drew1 (Below.refl _ _)) _
          have hk5 : W5.heap[w4.heap.size]? = some (.cells #[.int .i64 0, .slice none 0 0] 60 (0, 0)) := by rw [← hW5]; exact hb_new w4.drew _
          have hs5 : W5.heap.size = w4.heap.size + 1 := by rw [← hW5, World.size_alloc]; rfl
          rw [hW5]
          clear hW5
          have HB5 := Aside0.mk hb5
          have HK5 := Aside0.mk hk5
          have HS5 := Aside0.mk hs5
          clear hb5 hk5 hs5
          refine hK.out _ _ (HSS.out _ HB5.out) (fun hHeld => ?_)
          clear hK K
          refine norm_ (a' := ?_) ?_ ?_
          rotate_left
          · show Act.put _ (some 6) _ = _
            simp only [Act.put, List.setIfInBounds_toArray, List.set_cons_zero, List.set_cons_succ, i64_w, i32_w]
            rfl
          refine one_ (i := 8) (N := some 31) #[true, true, true, true, true, true, true, true, true, true, false] rfl rfl (by kernel_rfl) (by decide) (fun K hK => ?_)
          refine goes_ Try.func47 (by kernel_rfl) rfl #[.slice A s.es.length c, .int .i64 s.delay] (by rfl) rfl rfl (by (try simp only [List.map_toArray, List.map_cons, List.map_nil]); first | done | rfl) ?_
          refine (HNB.out _ HB5.out).mono ?_
          rintro e w6 ⟨v5, rfl, hr5, hb6⟩
          refine ⟨_, rfl, ?_⟩
          obtain ⟨V, cv, hv5⟩ := Kd.R_slice hr5
          subst hv5
          have hb46 := HB5.out.trans (hb6.mono HB5.out.size)
          refine hK.out _ _ (HSS.out _ hb46) (fun hHeld => ?_)
          clear hK K
          exact hcont (w4.heap.size, V, cv) _ ⟨(hb6.block _ (lt_of_blk HK5.out)).trans HK5.out, Kd.R_lower (Kd.R_mono (Kd.R_bound hr5) (fun k hk => by have h1 := hk.2.1; have := HS5.out; show k ≠ w4.heap.size; omega)) HB5.out.size, hb46, Nat.le_refl _⟩
end Go.Proofs.Ytcikmpcacakfbaa.QFilewatchBatches
