/-
  The reference's Watcher.Poll (function 30).
-/
import Derived.Test.YtcikmpcacakfbaaHandFwW4
namespace Go.Proofs.Ytcikmpcacakfbaa.QFilewatchBatches
open Go.RowKit Go.Proofs.YtcikmpcacakfbaaW.PrintWords Go.Proofs.YtcikmpcacakfbaaW.PrintLast Go.Proofs.YtcikmpcacakfbaaW.PrintMore Go.Proofs.Ytcikmpcacakfbaa.Hand
set_option linter.unusedVariables false
set_option linter.unusedSimpArgs false
def refPollR : WS → Int → Int × List S58 × Bool × WS := pollR dueB (fun s => (lastTime s.es s.delay, refEvents s.es))
theorem dueB_pos {s : WS} {n : Int} (h : dueB s n = true) : 0 < s.es.length := by
  unfold dueB at h
  by_cases c : s.es.length = 0
  · rw [if_pos c] at h; cases h
  · omega
set_option maxRecDepth 100000 in
set_option maxHeartbeats 16000000 in
theorem refPoll_calls (g : Nat) (v : Value) (s : WS) (now : Int) (w : World) (hI : WI 56 g v s w) (hl : s.es.length < 100000) :
    Calls Try.prog 30 #[.pointer (some ⟨g, 0, none⟩), .int .i64 now] w (PollPost 56 g v (refPollR s now) w) := by
  have HI := Aside0.mk hI
  have HL := Aside0.mk hl
  have hu90 := Try.underlying56
  clear hI hl
  go_enter Try.func30, Try.ntmps30
  go_upto_region 1 with (fail)
  obtain ⟨b, hb⟩ : ∃ b, w.heap.size = b := ⟨_, rfl⟩
  have HBW := Aside0.mk hb
  have HGB := Aside0.mk (show g < b by rw [← hb]; exact HI.out.lt)
  obtain ⟨W1, hW1⟩ : ∃ W1, w.alloc (.cells #[.int .i64 0, .slice none 0 0] 60) = W1 := ⟨_, rfl⟩
  have hb1 : Below b w W1 := by rw [← hb, ← hW1]; exact below_alloc (Below.refl _ _) _
  have hk1 : W1.heap[b]? = some (.cells #[.int .i64 0, .slice none 0 0] 60 (0, 0)) := by rw [← hb, ← hW1]; exact hb_new _ _
  have hI1 : WI 56 g v s W1 := HI.out.below (by rw [hb]; exact hb1)
  rw [hW1, hb]
  have HB1 := Aside0.mk hb1
  have HK1 := Aside0.mk hk1
  have HI1 := Aside0.mk hI1
  have x1 : W1.cell? ⟨g, 1, none⟩ = some (.int .i64 s.now) := (cells_of_blk hI1.1 1).trans rfl
  have f1 := free_of_blk hI1.1 1
  clear hb1 hk1 hI1 hb hW1
  have z0 : ∀ X : World, X.heap[b]? = some (.cells #[.int .i64 0, .slice none 0 0] 60 (0, 0)) → ((X.setCell ⟨b, 0, none⟩ (.int .i64 0)).setCell ⟨b, 1, none⟩ (.slice none 0 0)).heap[b]? = some (.cells #[.int .i64 0, .slice none 0 0] 60 (0, 0)) := fun X h => by
    have h2 := hb_set (hb_set h 0 (.int .i64 0)) 1 (.slice none 0 0)
    exact h2
  have HZ0 := Aside0.mk z0
  -- nothing comes back
  have none_ : ∀ (X : World) (s' : WS) (bo : Bool), X.heap[b]? = some (.cells #[.int .i64 0, .slice none 0 0] 60 (0, 0)) → WI 56 g v s' X → Chg (fun k => k = g ∨ some k = v.ownBlock) w X → WI 56 g v s' ((X.setCell ⟨b, 0, none⟩ (.int .i64 0)).setCell ⟨b, 1, none⟩ (.slice none 0 0)) ∧ Chg (fun k => k = g ∨ some k = v.ownBlock) w ((X.setCell ⟨b, 0, none⟩ (.int .i64 0)).setCell ⟨b, 1, none⟩ (.slice none 0 0)) := by
    intro X s' bo hX hw hc
    have hvb : ∀ k, v.ownBlock = some k → k ≠ b := fun k hk => by have := HI.out.own_lt hk; have := HBW.out; omega
    have hgb := HGB.out
    have c2 : Chg (fun k => k = b) X ((X.setCell ⟨b, 0, none⟩ (.int .i64 0)).setCell ⟨b, 1, none⟩ (.slice none 0 0)) := (Chg.set (S := fun k => k = b) X ⟨b, 0, none⟩ _ rfl).trans (Chg.set (S := fun k => k = b) _ ⟨b, 1, none⟩ _ rfl) (fun _ _ e => e)
    exact ⟨hw.move c2 (by omega) hvb, hc.trans c2 (fun k h1 h2 => absurd h1 (by have := HBW.out; omega))⟩
  have HN := Aside0.mk none_
  clear none_ z0
  by_cases c1 : now < s.now
  · have b1 := decide_eq_true c1
    have HR := Aside0.mk (show refPollR s now = (0, [], false, s) by unfold refPollR pollR; rw [if_pos c1])
    have hk1 := HK1.out
    have y0 : W1.cell? ⟨b, 0, none⟩ = some (.int .i64 0) := (cells_of_blk hk1 0).trans rfl
    have y1 : W1.cell? ⟨b, 1, none⟩ = some (.slice none 0 0) := (cells_of_blk hk1 1).trans rfl
    have g0 := free_of_blk hk1 0
    have g1 := free_of_blk hk1 1
    clear c1 hk1 f1
    go_wp2
    refine bodyPost_ret (results_ct1 (d := _) rfl _ _ b 60 #[.int .i64 0, .slice none 0 0] (0, 0) rfl (HZ0.out W1 HK1.out) Try.underlying60 rfl (by kernel_rfl)) rfl ?_
    obtain ⟨h1, h2⟩ := HN.out W1 s false HK1.out HI1.out (Chg.of_new (by rw [HBW.out]; exact HB1.out))
    refine ⟨.slice none 0 0, v, by rw [HR.out]; rfl, by rw [HR.out]; exact Kd.R_nil _ _ _ _ _, by rw [HR.out]; exact h1, h2, fun k hk => .inl hk⟩
  · have b1 := decide_eq_false c1
    go_upto_region 4 with (fail)
    obtain ⟨W3, hW3⟩ : ∃ W3, W1.setCell ⟨g, 1, none⟩ (.int .i64 now) = W3 := ⟨_, rfl⟩
    have hI3 : WI 56 g v { s with now := now } W3 := by rw [← hW3]; exact HI1.out.now_ now
    have hk3 : W3.heap[b]? = some (.cells #[.int .i64 0, .slice none 0 0] 60 (0, 0)) := by rw [← hW3]; exact hb_far HK1.out (by have := HGB.out; show b ≠ g; omega) _
    have hc3 : Chg (fun k => k = g ∨ some k = v.ownBlock) w W3 := by rw [← hW3]; exact (Chg.of_new (by rw [HBW.out]; exact HB1.out)).trans (Chg.set (S := fun k => k = g ∨ some k = v.ownBlock) W1 ⟨g, 1, none⟩ _ (.inl rfl)) (fun _ _ e => e)
    rw [hW3]
    have HI3 := Aside0.mk hI3
    have HK3 := Aside0.mk hk3
    have HC3 := Aside0.mk hc3
    clear hW3 hI3 hk3 hc3 x1 f1 b1
    have CC := Aside0.mk (due_calls g v { s with now := now } now W3 HI3.out HL.out)
    cases hcb : dueB { s with now := now } now with
    | false =>
      have HR := Aside0.mk (show refPollR s now = (0, [], false, { s with now := now }) by unfold refPollR pollR; rw [if_neg c1, if_pos hcb])
      have HCB := Aside0.mk hcb
      clear c1 hcb
      go_upto_region 5 with (go_at_call 55; refine CC.out.mono ?_; rw [HCB.out]; rintro e w4 ⟨rfl, hb4⟩; have HB4 := Aside0.mk hb4; have hk4 := (hb4.block _ (lt_of_blk HK3.out)).trans HK3.out; have y0 : w4.cell? ⟨b, 0, none⟩ = some (.int .i64 0) := (cells_of_blk hk4 0).trans rfl; have y1 : w4.cell? ⟨b, 1, none⟩ = some (.slice none 0 0) := (cells_of_blk hk4 1).trans rfl; have g0 := free_of_blk hk4 0; have g1 := free_of_blk hk4 1; have HK4 := Aside0.mk hk4; clear hb4 hk4)
      go_wp2
      refine bodyPost_ret (results_ct1 (d := _) rfl _ _ b 60 #[.int .i64 0, .slice none 0 0] (0, 0) rfl (HZ0.out w4 HK4.out) Try.underlying60 rfl (by kernel_rfl)) rfl ?_
      obtain ⟨h1, h2⟩ := HN.out w4 { s with now := now } false HK4.out (HI3.out.below HB4.out) (HC3.out.trans (Chg.of_new (S := fun k => k = g ∨ some k = v.ownBlock) HB4.out) (fun _ _ e => e))
      exact ⟨.slice none 0 0, v, by rw [HR.out]; rfl, by rw [HR.out]; exact Kd.R_nil _ _ _ _ _, by rw [HR.out]; exact h1, h2, fun k hk => .inl hk⟩
    | true =>
      have HPOS := Aside0.mk (show 0 < s.es.length from dueB_pos hcb)
      have HCT := Aside0.mk (show refPollR s now = (if (refEvents s.es).length = 0 then (0, [], false, ⟨s.delay, now, []⟩) else (lastTime s.es s.delay, refEvents s.es, true, ⟨s.delay, now, []⟩)) by unfold refPollR pollR; rw [if_neg c1, if_neg (by rw [hcb]; simp)])
      have HCB := Aside0.mk hcb
      clear c1 hcb
      go_upto_region 6 with (go_at_call 55; refine CC.out.mono ?_; rw [HCB.out]; rintro e w4 ⟨rfl, hb4⟩; have HI4 := Aside0.mk (HI3.out.below hb4); have HK4 := Aside0.mk ((hb4.block _ (lt_of_blk HK3.out)).trans HK3.out); have HC4 := Aside0.mk (HC3.out.trans (Chg.of_new (S := fun k => k = g ∨ some k = v.ownBlock) hb4) (fun _ _ e => e)); clear hb4)
      obtain ⟨A, c_, hv⟩ := Kd.R_slice HI.out.2
      subst hv
      have hCE := (Kd.R_reads' HI4.out.2).2.2
      have HCE := Aside0.mk hCE
      obtain ⟨ad, rfl, y0⟩ := last_cell hCE HPOS.out
      obtain ⟨t, ht⟩ : ∃ t, (rd_T58 s.es ((s.es.length : Int) - 1)).f0 = t := ⟨_, rfl⟩
      replace y0 : w4.cell? (ad.add ((s.es.length - 1) * 3)) = some (.int .i64 t) := by rw [← ht]; exact y0
      have HT := Aside0.mk (show lastTime s.es s.delay = wrap64 (t + s.delay) by unfold lastTime; rw [ht])
      rw [HT.out] at HCT
      have y2 : w4.cell? ⟨g, 2, none⟩ = some (.slice (some ad) s.es.length c_) := (cells_of_blk HI4.out.1 2).trans rfl
      have q2 := HPOS.out
      have q1 := HL.out
      have r0 := eq_true (show (0 : Int) ≤ (s.es.length : Int) - 1 by omega)
      have r4 := eq_true (show (1 : Int) ≤ (s.es.length : Int) by omega)
      have r5 := eq_true (show (s.es.length : Int) - 1 < (s.es.length : Int) by omega)
      have r6 : IntKind.i64.wrap ((s.es.length : Int) - 1) = (s.es.length : Int) - 1 := by rw [i64_w]; unfold wrap64; omega
      clear hCE ht CC HCB q1 q2
      go_quiet (fail)
      go_upto_region 7 with (fail)
      obtain ⟨W5, hW5⟩ : ∃ W5, w4.drewN nq = W5 := ⟨_, rfl⟩
      have hb5 : Below w4.heap.size w4 W5 := by rw [← hW5]; exact pw_below_drewN (Below.refl _ _) _
      rw [hW5]
      have HI5 := Aside0.mk (HI4.out.below hb5)
      have HK5 := Aside0.mk ((hb5.block _ (lt_of_blk HK4.out)).trans HK4.out)
      have HC5 := Aside0.mk (HC4.out.trans (Chg.of_new (S := fun k => k = g ∨ some k = (Value.slice (some ad) s.es.length c_).ownBlock) hb5) (fun _ _ e => e))
      clear y0 y2 r0 r4 r5 r6 hb5 hW5
      have y2 : W5.cell? ⟨g, 2, none⟩ = some (.slice (some ad) s.es.length c_) := (cells_of_blk HI5.out.1 2).trans rfl
      have f2 := free_of_blk HI5.out.1 2
      go_upto_region 9 with (fail)
      obtain ⟨W6, hW6⟩ : ∃ W6, W5.setCell ⟨g, 2, none⟩ (.slice none 0 0) = W6 := ⟨_, rfl⟩
      have hI6 : WI 56 g (.slice none 0 0) ⟨s.delay, now, []⟩ W6 := by
        refine ⟨?_, Kd.R_nil _ _ _ _ _⟩
        rw [← hW6]
        have h := hb_set HI5.out.1 2 (.slice none 0 0)
        exact h
      have hk6 : W6.heap[b]? = some (.cells #[.int .i64 0, .slice none 0 0] 60 (0, 0)) := by rw [← hW6]; exact hb_far HK5.out (by have := HGB.out; show b ≠ g; omega) _
      have hc6 : Chg (fun k => k = g ∨ some k = (Value.slice (some ad) s.es.length c_).ownBlock) w W6 := by rw [← hW6]; exact HC5.out.trans (Chg.set (S := fun k => k = g ∨ some k = (Value.slice (some ad) s.es.length c_).ownBlock) W5 ⟨g, 2, none⟩ _ (.inl rfl)) (fun _ _ e => e)
      have hC6 : Kd.C k58 W6 (some ad) s.es.length s.es := by
        rw [← hW6]
        exact (Kd.R_reads' (Kd.R_step HI5.out.2 (fun k hk _ => Below.heap_setCell _ _ _ _ hk.2))).2.2
      have hcap : s.es.length ≤ c_ := (Kd.R_reads' HI5.out.2).2.1
      rw [hW6]
      have HI6 := Aside0.mk hI6
      have HK6 := Aside0.mk hk6
      have HC6 := Aside0.mk hc6
      have HCS := Aside0.mk hC6
      have HCC := Aside0.mk hcap
      have z0 : W6.cell? ⟨g, 0, none⟩ = some (.int .i64 s.delay) := (cells_of_blk hI6.1 0).trans rfl
      clear y2 f2 hW6 hI6 hk6 hc6 hC6 hcap
      obtain ⟨seg, hseg⟩ : ∃ seg, s.es = seg := ⟨_, rfl⟩
      rw [hseg] at HCT HCS HCC HL HPOS HC6 ⊢
      go_upto_region 10 with (fail)
      obtain ⟨gb, hg⟩ : ∃ gb, W6.heap.size = gb := ⟨_, rfl⟩
      obtain ⟨W8, hW8⟩ : ∃ W8, W6.alloc (.cells #[.int .i64 (wrap64 (t + s.delay)), .slice none 0 0] 60) = W8 := ⟨_, rfl⟩
      have hb8 : Below gb W6 W8 := by rw [← hW8, ← hg]; exact below_alloc (Below.refl _ _) _
      have hk8 : W8.heap[gb]? = some (.cells #[.int .i64 (wrap64 (t + s.delay)), .slice none 0 0] 60 (0, 0)) := by rw [← hW8, ← hg]; exact hb_new _ _
      have hz8 : W8.heap.size = gb + 1 := by rw [← hW8, ← hg]; simp
      rw [hW8, hg]
      have HG := Aside0.mk hg
      have HB8 := Aside0.mk hb8
      have HK8 := Aside0.mk hk8
      have HZ8 := Aside0.mk hz8
      have HGE := Aside0.mk (show W6.heap.size ≤ gb by rw [hg]; exact Nat.le_refl _)
      have HCS8 := Aside0.mk (Kd.C_below HCS.out (hb8.mono (by rw [hg]; exact Nat.le_refl _)))
      clear hg hW8 hb8 hk8 hz8 z0
      obtain ⟨d, hd⟩ : ∃ d, s.delay = d := ⟨_, rfl⟩
      try rw [hd]
      rw [hd] at HK8
      obtain ⟨kp, hkp⟩ := paths_f seg HL.out
      have HKP := Aside0.mk hkp
      clear hkp
      go_wp2_with (go_at_call 48; refine (glossatorref3_paths.calls kp (some ad) c_ seg _ _ HCS8.out HCC.out HKP.out).mono ?_; rintro e9 w9 ⟨v9, rfl, ho9, hb9⟩; obtain ⟨A9, c9, hv9⟩ := Kd.R_slice ho9; subst hv9; have HO9 := Aside0.mk ho9; have HB9 := Aside0.mk hb9; clear ho9 hb9)
      obtain ⟨ks, hks⟩ : ∃ ks, refKeys seg = ks := ⟨_, rfl⟩
      have HEV := Aside0.mk (show refEvents seg = refOut seg ks by unfold refEvents; rw [hks])
      have HKL := Aside0.mk (show ks.length < 100000 by
        rw [← hks]
        unfold refKeys
        have h1 := sortS_len (seg.map S58.f1)
        rw [List.length_map] at h1
        have := HL.out
        omega)
      have ho9 := HO9.out
      rw [hks] at ho9 ⊢
      have HO := Aside0.mk ho9
      have HK9 := Aside0.mk ((HB9.out.block _ (lt_of_blk HK8.out)).trans HK8.out)
      have HCS9 := Aside0.mk (Kd.C_below HCS8.out HB9.out)
      have HB89 := Aside0.mk (HB8.out.trans (HB9.out.mono (by have := HZ8.out; omega)))
      clear HO9 hks ho9 HKP
      go_loopg [60] ks.length (fun kq v60 W => ∃ i : Nat, v60 = .int .i64 (i : Int) ∧ kq + i = ks.length ∧ Aside0 (∃ V c, W.heap[gb]? = some (.cells #[.int .i64 (wrap64 (t + d)), .slice V (refOut seg (ks.take i)).length c] 60 (0, 0)) ∧ Kd.R k58 58 W w9.heap.size (fun _ => True) (.slice V (refOut seg (ks.take i)).length c) (refOut seg (ks.take i)) ∧ Chg (fun k => k = gb) w9 W))
      case atStart => exact ⟨0, rfl, by omega, ⟨none, 0, HK9.out, Kd.R_nil _ _ _ _ _, Chg.refl _ _⟩⟩
      case round =>
        obtain ⟨i, rfl, hi, hA⟩ := hrel
        obtain ⟨V, c, hkg, hrg, hch⟩ := hA.out
        clear hA
        cases gk with
        | zero =>
          have hie : i = ks.length := by omega
          have c0 : decide ((i : Int) < (ks.length : Int)) = false := decide_eq_false (by omega)
          have c0' : decide (i < ks.length) = false := decide_eq_false (by omega)
          rw [hie, List.take_length, ← HEV.out] at hkg hrg
          obtain ⟨evs, hev⟩ : ∃ evs, refEvents seg = evs := ⟨_, rfl⟩
          rw [hev] at hkg hrg HCT
          have hbc : Below W6.heap.size W6 wr := (HB89.out.mono HGE.out).trans (hch.to_below (fun k _ e => by have := HGE.out; omega) (by have := HGE.out; have := lt_of_blk HK9.out; omega))
          have hbg : b < W6.heap.size := lt_of_blk HK6.out
          have hggb : gb = W6.heap.size := HG.out.symm
          have hgw9 : gb < w9.heap.size := lt_of_blk HK9.out
          have hI7 : WI 56 g (.slice none 0 0) ⟨s.delay, now, []⟩ wr := HI6.out.below hbc
          have hkb7 := (hbc.block b hbg).trans HK6.out
          have hc7 : Chg (fun k => k = g ∨ some k = (Value.slice (some ad) seg.length c_).ownBlock) w wr := HC6.out.trans (Chg.of_new (S := fun k => k = g ∨ some k = (Value.slice (some ad) seg.length c_).ownBlock) hbc) (fun _ _ e => e)
          have HI7 := Aside0.mk hI7
          have HKB7 := Aside0.mk hkb7
          have HK67 := Aside0.mk hkg
          have HR67 := Aside0.mk hrg
          have HC7 := Aside0.mk hc7
          have HBG := Aside0.mk hbg
          have HGG := Aside0.mk hggb
          have HGW := Aside0.mk hgw9
          rw [hd] at HCT HI7
          clear hie hkg hrg hch hev hbc hbg hggb hgw9 hI7 hkb7 hc7 hi
          obtain ⟨T, hT⟩ : ∃ T, wrap64 (t + d) = T := ⟨_, rfl⟩
          rw [hT] at HCT HK67
          clear hT
          have x0 : wr.cell? ⟨gb, 0, none⟩ = some (.int .i64 T) := (cells_of_blk HK67.out 0).trans rfl
          have x1 : wr.cell? ⟨gb, 1, none⟩ = some (.slice V evs.length c) := (cells_of_blk HK67.out 1).trans rfl
          have y0 : wr.cell? ⟨b, 0, none⟩ = some (.int .i64 0) := (cells_of_blk HKB7.out 0).trans rfl
          have y1 : wr.cell? ⟨b, 1, none⟩ = some (.slice none 0 0) := (cells_of_blk HKB7.out 1).trans rfl
          have g0 := free_of_blk HKB7.out 0
          have g1 := free_of_blk HKB7.out 1
          by_cases hz : evs.length = 0
          · have b1 : ((evs.length : Int) == 0) = true := by simpa using hz
            have b2 : (evs.length == 0) = true := by simpa using hz
            have HR := Aside0.mk (show refPollR s now = (0, [], false, ⟨d, now, []⟩) by rw [HCT.out, if_pos hz])
            have b3 : decide (evs = []) = true := by simpa using hz
            clear hz
            go_wp2
            refine bodyPost_ret (results_ct1 (d := _) rfl _ _ b 60 #[.int .i64 0, .slice none 0 0] (0, 0) rfl (HZ0.out wr HKB7.out) Try.underlying60 rfl (by kernel_rfl)) rfl ?_
            have hgb := HGB.out
            have c2 : Chg (fun k => k = b) wr ((wr.setCell ⟨b, 0, none⟩ (.int .i64 0)).setCell ⟨b, 1, none⟩ (.slice none 0 0)) := (Chg.set (S := fun k => k = b) wr ⟨b, 0, none⟩ _ rfl).trans (Chg.set (S := fun k => k = b) _ ⟨b, 1, none⟩ _ rfl) (fun _ _ e => e)
            exact ⟨.slice none 0 0, .slice none 0 0, by rw [HR.out]; rfl, by rw [HR.out]; exact Kd.R_nil _ _ _ _ _, by rw [HR.out]; exact HI7.out.move c2 (by omega) (fun k hk => by cases hk), HC7.out.trans c2 (fun k h1 h2 => absurd h1 (by have := HBW.out; omega)), fun k hk => by cases hk⟩
          · have b1 : ((evs.length : Int) == 0) = false := by simpa using hz
            have b2 : (evs.length == 0) = false := by simpa using hz
            have HR := Aside0.mk (show refPollR s now = (T, evs, true, ⟨d, now, []⟩) by rw [HCT.out, if_neg hz])
            clear hz
            go_wp2
            refine bodyPost_ret (results_ct1 (d := _) rfl _ _ b 60 #[.int .i64 T, .slice V evs.length c] (0, 0) rfl (by have h := hb_set (hb_set HKB7.out 0 (.int .i64 T)) 1 (.slice V evs.length c); exact h) Try.underlying60 rfl (by kernel_rfl)) rfl ?_
            have hgb := HGB.out
            have hbg := HBG.out
            have hww := HBW.out
            have hgg := HGG.out
            have hgw := HGW.out
            have c2 : Chg (fun k => k = b) wr ((wr.setCell ⟨b, 0, none⟩ (.int .i64 T)).setCell ⟨b, 1, none⟩ (.slice V evs.length c)) := (Chg.set (S := fun k => k = b) wr ⟨b, 0, none⟩ _ rfl).trans (Chg.set (S := fun k => k = b) _ ⟨b, 1, none⟩ _ rfl) (fun _ _ e => e)
            refine ⟨.slice V evs.length c, .slice none 0 0, by rw [HR.out]; rfl, ?_, by rw [HR.out]; exact HI7.out.move c2 (by omega) (fun k hk => by cases hk), HC7.out.trans c2 (fun k h1 h2 => absurd h1 (by omega)), fun k hk => by cases hk⟩
            rw [HR.out]
            exact Kd.R_lower (Kd.R_mono (Kd.R_step (Kd.R_bound HR67.out) (fun k hk _ => c2.block k hk.2.2.1 (by have := hk.2.1; omega))) (fun _ _ => trivial)) (by omega)
        | succ k4 =>
          have c0 : decide ((i : Int) < (ks.length : Int)) = true := decide_eq_true (by omega)
          have c0' : decide (i < ks.length) = true := decide_eq_true (by omega)
          have hil : i < ks.length := by omega
          obtain ⟨x, hx⟩ : ∃ x, rdOf ByteArray.empty ks (i : Int) = x := ⟨_, rfl⟩
          have hco := (Kd.R_reads' (Kd.R_step (Kd.R_bound HO.out) (fun k hk _ => hch.block k hk.2.2.1 (by have := hk.2.1; have := HZ8.out; omega)))).2.2
          obtain ⟨ad9, rfl, x0⟩ := Kd.at_string hco (i : Int) (by omega) (by omega)
          rw [hx, Int.toNat_natCast] at x0
          have r0 := eq_true (show (0 : Int) ≤ (i : Int) by omega)
          have r1 := eq_true (show (i : Int) < (ks.length : Int) by omega)
          have r2 := eq_true hil
          have HOUT := Aside0.mk (show refOut seg (ks.take (i + 1)) = refOut seg (ks.take i) ++ (if (refEv seg x).f2 != 0 then [refEv seg x] else []) by
            rw [refOut_succ seg ks i hil]
            have : ks[i] = x := by rw [← hx]; unfold rdOf; rw [Int.toNat_natCast, List.getD_eq_getElem?_getD, List.getElem?_eq_getElem hil]; rfl
            rw [this])
          have HI4 := Aside0.mk (show wrap64 ((i : Int) + 1) = ((i + 1 : Nat) : Int) by have := HKL.out; unfold wrap64; omega)
          have HKG := Aside0.mk hkg
          have HRG := Aside0.mk hrg
          have HCH := Aside0.mk hch
          have HGS := Aside0.mk (show gb < w9.heap.size from lt_of_blk HK9.out)
          clear hil hx hkg hrg hch hco
          go_upto_block 2 with (fail)
          obtain ⟨g11, hg11⟩ : ∃ g11, wr.heap.size = g11 := ⟨_, rfl⟩
          obtain ⟨W11, hW11⟩ : ∃ W11, wr.alloc (.cells #[.int .i64 0, .string x, .int .i64 0] 58) = W11 := ⟨_, rfl⟩
          have hb11 : Below g11 wr W11 := by rw [← hW11, ← hg11]; exact below_alloc (Below.refl _ _) _
          have hk11 : W11.heap[g11]? = some (.cells #[.int .i64 0, .string x, .int .i64 0] 58 (0, 0)) := by rw [← hW11, ← hg11]; exact hb_new _ _
          have hlt11 : w9.heap.size ≤ g11 := by rw [← hg11]; exact HCH.out.size
          rw [hW11, hg11]
          have HL11 := Aside0.mk hlt11
          have HZ11 := Aside0.mk hg11
          have HB11 := Aside0.mk hb11
          have HK11 := Aside0.mk hk11
          have HBA := Aside0.mk (show Below W6.heap.size W6 W11 from ((HB89.out.mono HGE.out).trans (HCH.out.to_below (fun k _ e => by have := HGE.out; omega) (by have := HGE.out; have := HGS.out; omega))).trans (hb11.mono (by have := HGE.out; have := HGS.out; omega)))
          clear hg11 hW11 hb11 hk11 hlt11 x0 r0 r1 r2 c0 c0'
          go_wp2
          go_loopg [68] seg.length (fun kq v68 W => ∃ j : Nat, v68 = .int .i64 (j : Int) ∧ kq + j = seg.length ∧ Aside0 (W.heap[g11]? = some (.cells #[.int .i64 (mAt seg x j).f0, .string x, .int .i64 (mAt seg x j).f2] 58 (0, 0)) ∧ Chg (fun k => k = g11) W11 W))
          case atStart => exact ⟨0, rfl, by omega, ⟨HK11.out, Chg.refl _ _⟩⟩
          case round =>
            obtain ⟨j, rfl, hj, hM⟩ := hrel
            cases gk with
            | zero =>
              have hje : j = seg.length := by omega
              have c0 : decide ((j : Int) < (seg.length : Int)) = false := decide_eq_false (by omega)
              have c0' : decide (j < seg.length) = false := decide_eq_false (by omega)
              have hm1 := hM.out.1
              rw [hje, mAt_end] at hm1
              obtain ⟨m, hm⟩ : ∃ m, refEv seg x = m := ⟨_, rfl⟩
              have hmx : m.f1 = x := by rw [← hm, ← mAt_end]; exact mAt_f1 _ _ _
              rw [hm] at hm1 HOUT
              have hx1 : x = m.f1 := hmx.symm
              rw [hx1] at hm1
              have hchA : Chg (fun k => k = gb) w9 wr := (HCH.out.trans (Chg.of_below (S := fun k => g11 ≤ k) HB11.out (fun k _ h => h)) (fun k h1 h2 => absurd h1 (by have := HL11.out; omega))).trans hM.out.2 (fun k h1 h2 => absurd h1 (by have := HL11.out; omega))
              have hgl : gb < g11 := by have := HGS.out; have := HL11.out; omega
              have hkgA : wr.heap[gb]? = some (.cells #[.int .i64 (wrap64 (t + d)), .slice V (refOut seg (ks.take i)).length c] 60 (0, 0)) := (hM.out.2.block gb (by have := lt_of_blk HK11.out; omega) (by omega)).trans ((HB11.out.block gb hgl).trans HKG.out)
              have hrgA : Kd.R k58 58 wr w9.heap.size (fun _ => True) (.slice V (refOut seg (ks.take i)).length c) (refOut seg (ks.take i)) :=
                Kd.R_mono (Kd.R_step (Kd.R_bound HRG.out) (fun k hk _ => by
                  have hk3 := hk.2.2.1
                  have := HZ11.out
                  have := lt_of_blk HK11.out
                  exact (hM.out.2.block k (by omega) (by omega)).trans (HB11.out.block k (by omega)))) (fun _ _ => trivial)
              obtain ⟨os, hos⟩ : ∃ os, refOut seg (ks.take i) = os := ⟨_, rfl⟩
              rw [hos] at hkgA hrgA HOUT
              have HOL := Aside0.mk (show os.length < 100000 by
                rw [← hos]
                unfold refOut
                have h1 := List.length_filter_le (fun e : S58 => e.f2 != 0) ((ks.take i).map (refEv seg))
                rw [List.length_map, List.length_take] at h1
                have := HKL.out
                omega)
              have HKA := Aside0.mk hkgA
              have HRA := Aside0.mk hrgA
              have HCA := Aside0.mk hchA
              have HMA := Aside0.mk hm1
              clear hje hm1 hm hmx hx1 hchA hgl hkgA hrgA hos hM
              have x0 : wr.cell? ⟨g11, 0, none⟩ = some (.int .i64 m.f0) := (cells_of_blk HMA.out 0).trans rfl
              have x1 : wr.cell? ⟨g11, 1, none⟩ = some (.string m.f1) := (cells_of_blk HMA.out 1).trans rfl
              have x2 : wr.cell? ⟨g11, 2, none⟩ = some (.int .i64 m.f2) := (cells_of_blk HMA.out 2).trans rfl
              have y1 : wr.cell? ⟨gb, 1, none⟩ = some (.slice V os.length c) := (cells_of_blk HKA.out 1).trans rfl
              cases e1 : (m.f2 == 0) with
              | true =>
                have e2 : (m.f2 != 0) = false := by rw [bne, e1]; rfl
                have HE := Aside0.mk e2
                go_wp2
                go_roundg k4
                case measure => omega
                case rel => exact ⟨i + 1, by rw [HI4.out], by omega, ⟨V, c, by
                  rw [HOUT.out, HE.out]
                  simp only [Bool.false_eq_true, if_false, List.append_nil]
                  exact ⟨HKA.out, HRA.out, HCA.out⟩⟩⟩
              | false =>
                have e2 : (m.f2 != 0) = true := by rw [bne, e1]; rfl
                have HE := Aside0.mk e2
                go_wp2_with ((with_reducible refine gate_builtin (b := .append) (xs := #[.tmp 90, .tmp 92]) rfl ?_); at_builtin; refine Kd.R_append k58 (w0 := wr) w9.heap.size rfl (.tmp 90) (.tmp 92) 38 58 (.agg #[.int .i64 0, .string ⟨#[]⟩, .int .i64 0]) 32 rfl Try.underlying38 info58 rfl (by decide) (by omega) (.slice V os.length c) os m [.int .i64 m.f0, .string m.f1, .int .i64 m.f2] (fun _ => True) (fun _ => False) rfl rfl (k58_mkM _ _ _ m) (fun _ h => h.elim) (fun _ _ => trivial) HRA.out (Below.refl _ _) HCA.out.size (by have := HOL.out; omega) ?_; intro v5 w5 ho5 hb5 hg5 hat5; (obtain ⟨V5, c5, hv5⟩ := Kd.R_slice ho5); (rw [List.length_append, List.length_singleton] at hv5); subst hv5; (have HO5 := Aside0.mk ho5); (have HB5 := Aside0.mk hb5); (have HK5 := Aside0.mk ((hb5.block gb HGS.out).trans HKA.out)); (have z5 := free_of_blk HK5.out 1); (have y5 : w5.cell? ⟨gb, 1, none⟩ = some (.slice V os.length c) := (cells_of_blk HK5.out 1).trans rfl); clear ho5 hb5 hg5 hat5 y1 x0 x1 x2)
                go_roundg k4
                case measure => omega
                case rel => exact ⟨i + 1, by rw [HI4.out], by omega, ⟨V5, c5, by
                  rw [HOUT.out, HE.out]
                  simp only [if_true]
                  rw [show (os ++ [m]).length = os.length + 1 by simp]
                  refine ⟨(by have h := hb_set HK5.out 1 (Value.slice V5 (os.length + 1) c5); exact h), ?_, ?_⟩
                  · exact Kd.R_mono (Kd.R_step (Kd.R_bound HO5.out) (fun k hk _ => Below.heap_setCell _ _ _ _ (by have := hk.2.1; have := HGS.out; show k ≠ gb; omega))) (fun _ _ => trivial)
                  · exact (HCA.out.trans (Chg.of_below (S := fun k => w9.heap.size ≤ k) HB5.out (fun k _ h => h)) (fun k h1 h2 => absurd h1 (Nat.not_lt.2 h2))).trans (Chg.set (S := fun k => k = gb) w5 ⟨gb, 1, none⟩ _ rfl) (fun k h1 h2 => h2)⟩⟩
            | succ k5 =>
              have c0 : decide ((j : Int) < (seg.length : Int)) = true := decide_eq_true (by omega)
              have c0' : decide (j < seg.length) = true := decide_eq_true (by omega)
              have hjl : j < seg.length := by omega
              have hBw : Below W6.heap.size W6 wr := HBA.out.trans (hM.out.2.to_below (fun k _ e => by have := HGE.out; have := HGS.out; have := HL11.out; omega) HBA.out.size)
              obtain ⟨y, hy⟩ : ∃ y, rd_T58 seg (j : Int) = y := ⟨_, rfl⟩
              have HMS := Aside0.mk (show mAt seg x (j + 1) = refStep x (mAt seg x j) y by rw [mAt_succ seg x j hjl, hy])
              obtain ⟨ads, hads, x0, x1, x2⟩ := at_T58 (Kd.C_below HCS.out hBw) (j : Int) (by omega) (by omega)
              obtain rfl := Option.some.inj hads
              clear hads
              rw [hy, Int.toNat_natCast] at x0 x1 x2
              have r0 := eq_true (show (0 : Int) ≤ (j : Int) by omega)
              have r1 := eq_true (show (j : Int) < (seg.length : Int) by omega)
              have r2 := eq_true hjl
              have HJ := Aside0.mk (show wrap64 ((j : Int) + 1) = ((j + 1 : Nat) : Int) by have := HL.out; unfold wrap64; omega)
              clear hjl hy hBw
              go_upto_region 17 with (fail)
              obtain ⟨g13, hg13⟩ : ∃ g13, wr.heap.size = g13 := ⟨_, rfl⟩
              obtain ⟨W13, hW13⟩ : ∃ W13, wr.alloc (.cells #[.int .i64 y.f0, .string y.f1, .int .i64 y.f2] 58) = W13 := ⟨_, rfl⟩
              have hb13 : Below g13 wr W13 := by rw [← hW13, ← hg13]; exact below_alloc (Below.refl _ _) _
              have hk13 : W13.heap[g13]? = some (.cells #[.int .i64 y.f0, .string y.f1, .int .i64 y.f2] 58 (0, 0)) := by rw [← hW13, ← hg13]; exact hb_new _ _
              have hl13 : g11 < g13 := by rw [← hg13]; exact lt_of_blk hM.out.1
              have hc13 : Chg (fun k => k = g11) W11 W13 := hM.out.2.trans (Chg.of_below (S := fun k => g13 ≤ k) hb13 (fun k _ h => h)) (fun k h1 h2 => absurd h1 (by have := hM.out.2.size; omega))
              have hm13 := (hb13.block g11 hl13).trans hM.out.1
              rw [hW13, hg13]
              have HK13 := Aside0.mk hk13
              have HL13 := Aside0.mk hl13
              have HC13 := Aside0.mk hc13
              have HM13 := Aside0.mk hm13
              clear hg13 hW13 hb13 hk13 hl13 hc13 hm13 hM x0 x1 x2 r0 r1 r2 c0 c0'
              obtain ⟨m, hm⟩ : ∃ m, mAt seg x j = m := ⟨_, rfl⟩
              rw [hm] at HMS HM13
              clear hm
              have x1 : W13.cell? ⟨g13, 1, none⟩ = some (.string y.f1) := (cells_of_blk HK13.out 1).trans rfl
              by_cases hp : y.f1 = x
              · have e2 : (y.f1.toList == x.toList) = true := by rw [hp]; simp
                have HST := Aside0.mk (show mAt seg x (j + 1) = ⟨y.f0, x, mergeR m.f2 y.f2⟩ by rw [HMS.out]; unfold refStep; rw [if_pos hp])
                clear hp
                go_upto_region 18 with (fail)
                clear x1
                have HS := Aside0.mk (show ∀ X : World, X.heap[g13]? = some (.cells #[.int .i64 y.f0, .string y.f1, .int .i64 y.f2] 58 (0, 0)) → (X.cell? ⟨g13, 0, none⟩ = some (.int .i64 y.f0) ∧ X.cell? ⟨g13, 2, none⟩ = some (.int .i64 y.f2)) from fun X hX => ⟨(cells_of_blk hX 0).trans rfl, (cells_of_blk hX 2).trans rfl⟩)
                have HMD := Aside0.mk (show W13.drew.heap[g11]? = some (.cells #[.int .i64 m.f0, .string x, .int .i64 m.f2] 58 (0, 0)) from HM13.out)
                have HKD := Aside0.mk (show W13.drew.heap[g13]? = some (.cells #[.int .i64 y.f0, .string y.f1, .int .i64 y.f2] 58 (0, 0)) from HK13.out)
                refine start_ (n := 11) (S := fun w' => w'.cell? ⟨g13, 0, none⟩ = some (.int .i64 y.f0) ∧ w'.cell? ⟨g13, 2, none⟩ = some (.int .i64 y.f2)) (ds := ([] : List Nat)) #[false, false, false, false, false, false, false, false, false, false, false] (by kernel_rfl) rfl rfl (HS.out _ HKD.out) (fun hHeld => ?_)
                refine pure_ (i := 0) (N := some 76) (v := ?_) (a' := ?_) #[true, false, false, false, false, false, false, false, false, false, false] rfl rfl (by kernel_rfl) (fun _ _ _ h => h) (Or.inl ⟨by rfl, ?_⟩) ?_ ?_
                rotate_left
                · intro w'
                  go_simp
                  with_reducible rfl
                rotate_left
                · simp only [Act.put, List.setIfInBounds_toArray, List.set_cons_zero, List.set_cons_succ, i64_w, i32_w]
                  rfl
                refine pure_ (i := 2) (N := some 78) (v := ?_) (a' := ?_) #[true, false, true, false, false, false, false, false, false, false, false] rfl rfl (by kernel_rfl) (fun _ _ _ h => h) (Or.inl ⟨by rfl, ?_⟩) ?_ ?_
                rotate_left
                · intro w'
                  go_simp
                  with_reducible rfl
                rotate_left
                · simp only [Act.put, List.setIfInBounds_toArray, List.set_cons_zero, List.set_cons_succ, i64_w, i32_w]
                  rfl
                refine pure_ (i := 5) (N := some 81) (v := ?_) (a' := ?_) #[true, false, true, false, false, true, false, false, false, false, false] rfl rfl (by kernel_rfl) (fun _ _ _ h => h) (Or.inl ⟨by rfl, ?_⟩) ?_ ?_
                rotate_left
                · intro w'
                  go_simp
                  with_reducible rfl
                rotate_left
                · simp only [Act.put, List.setIfInBounds_toArray, List.set_cons_zero, List.set_cons_succ, i64_w, i32_w]
                  rfl
                refine take_ (i := 3) (N := some 79) (v := ?_) (a' := ?_) #[true, false, true, true, false, true, false, false, false, false, false] rfl rfl (by kernel_rfl) (fun _ _ _ h => h) (Or.inl ⟨by rfl, ?_⟩) hHeld ?_ ?_
                rotate_left
                · rintro w' ⟨s0_, s1_⟩
                  go_simp
                  with_reducible rfl
                rotate_left
                · simp only [Act.put, List.setIfInBounds_toArray, List.set_cons_zero, List.set_cons_succ, i64_w, i32_w]
                  rfl
                refine take_ (i := 6) (N := some 82) (v := ?_) (a' := ?_) #[true, false, true, true, false, true, true, false, false, false, false] rfl rfl (by kernel_rfl) (fun _ _ _ h => h) (Or.inl ⟨by rfl, ?_⟩) hHeld ?_ ?_
                rotate_left
                · rintro w' ⟨s0_, s1_⟩
                  go_simp
                  with_reducible rfl
                rotate_left
                · simp only [Act.put, List.setIfInBounds_toArray, List.set_cons_zero, List.set_cons_succ, i64_w, i32_w]
                  rfl
                refine one_ (i := 1) (N := some 77) #[true, true, true, true, false, true, true, false, false, false, false] rfl rfl (by kernel_rfl) (by decide) (fun K hK => ?_)
                have s0 : W13.drew.cell? ⟨g11, 2, none⟩ = some (.int .i64 m.f2) := (cells_of_blk HMD.out 2).trans rfl
                refine value_ (v := .int .i64 m.f2) (w1 := W13.drew) (by rfl) rfl ?_ ?_
                · go_simp
                clear s0
                refine hK.out _ _ (HS.out _ HKD.out) (fun hHeld => ?_)
                clear hK K
                refine norm_ (a' := ?_) ?_ ?_
                rotate_left
                · show Act.put _ (some 77) _ = _
                  simp only [Act.put, List.setIfInBounds_toArray, List.set_cons_zero, List.set_cons_succ, i64_w, i32_w]
                  rfl
                refine one_ (i := 4) (N := some 80) #[true, true, true, true, true, true, true, false, false, false, false] rfl rfl (by kernel_rfl) (by decide) (fun K hK => ?_)
                refine goes_ Try.func22 (by kernel_rfl) rfl #[.int .i64 m.f2, .int .i64 y.f2] (by rfl) rfl rfl (by (try simp only [List.map_toArray, List.map_cons, List.map_nil]); first | done | rfl) ?_
                refine (refMerge_calls m.f2 y.f2 _).mono ?_
                rintro e4 w4 ⟨rfl, hb4⟩
                refine ⟨_, rfl, ?_⟩
                have HM4 := Aside0.mk ((hb4.block _ (lt_of_blk HMD.out)).trans HMD.out)
                have HK4 := Aside0.mk ((hb4.block _ (lt_of_blk HKD.out)).trans HKD.out)
                have HB4 := Aside0.mk (show Below W13.heap.size W13 w4 from (below_drew1 (Below.refl W13.heap.size W13)).trans hb4)
                clear hb4
                refine hK.out _ _ (HS.out _ HK4.out) (fun hHeld => ?_)
                clear hK K
                refine norm_ (a' := ?_) ?_ ?_
                rotate_left
                · show Act.put _ (some 80) _ = _
                  simp only [Act.put, List.setIfInBounds_toArray, List.set_cons_zero, List.set_cons_succ, i64_w, i32_w]
                  rfl
                refine pure_ (i := 7) (N := some 83) (v := ?_) (a' := ?_) #[true, true, true, true, true, true, true, true, false, false, false] rfl rfl (by kernel_rfl) (fun _ _ _ h => h) (Or.inl ⟨by rfl, ?_⟩) ?_ ?_
                rotate_left
                · intro w'
                  go_simp
                  with_reducible rfl
                rotate_left
                · simp only [Act.put, List.setIfInBounds_toArray, List.set_cons_zero, List.set_cons_succ, i64_w, i32_w]
                  rfl
                refine one_ (i := 8) (N := none) #[true, true, true, true, true, true, true, true, true, false, false] rfl rfl (by kernel_rfl) (by decide) (fun K hK => ?_)
                have s0 : w4.cell? ⟨g11, 2, none⟩ = some (.int .i64 m.f2) := (cells_of_blk HM4.out 2).trans rfl
                have f0 := free_of_blk HM4.out 2
                refine skip_ (w1 := w4.setCell ⟨g11, 2, none⟩ (.int .i64 (mergeR m.f2 y.f2))) (by rfl) rfl ?_ ?_
                · go_simp
                clear s0 f0
                have HM5 := Aside0.mk (show (w4.setCell ⟨g11, 2, none⟩ (.int .i64 (mergeR m.f2 y.f2))).heap[g11]? = some (.cells #[.int .i64 m.f0, .string x, .int .i64 (mergeR m.f2 y.f2)] 58 (0, 0)) from hb_set HM4.out 2 _)
                have HK5 := Aside0.mk (show (w4.setCell ⟨g11, 2, none⟩ (.int .i64 (mergeR m.f2 y.f2))).heap[g13]? = some (.cells #[.int .i64 y.f0, .string y.f1, .int .i64 y.f2] 58 (0, 0)) from hb_far HK4.out (by have := HL13.out; show g13 ≠ g11; omega) _)
                refine hK.out _ _ (HS.out _ HK5.out) (fun hHeld => ?_)
                clear hK K
                refine pure_ (i := 9) (N := some 84) (v := ?_) (a' := ?_) #[true, true, true, true, true, true, true, true, true, true, false] rfl rfl (by kernel_rfl) (fun _ _ _ h => h) (Or.inl ⟨by rfl, ?_⟩) ?_ ?_
                rotate_left
                · intro w'
                  go_simp
                  with_reducible rfl
                rotate_left
                · simp only [Act.put, List.setIfInBounds_toArray, List.set_cons_zero, List.set_cons_succ, i64_w, i32_w]
                  rfl
                refine one_ (i := 10) (N := none) #[true, true, true, true, true, true, true, true, true, true, true] rfl rfl (by kernel_rfl) (by decide) (fun K hK => ?_)
                have s0 := (cells_of_blk HM5.out 0)
                have f0 := free_of_blk HM5.out 0
                refine skip_ (w1 := (w4.setCell ⟨g11, 2, none⟩ (.int .i64 (mergeR m.f2 y.f2))).setCell ⟨g11, 0, none⟩ (.int .i64 y.f0)) (by rfl) rfl ?_ ?_
                · go_simp
                clear s0 f0
                have HM6 := Aside0.mk (show ((w4.setCell ⟨g11, 2, none⟩ (.int .i64 (mergeR m.f2 y.f2))).setCell ⟨g11, 0, none⟩ (.int .i64 y.f0)).heap[g11]? = some (.cells #[.int .i64 y.f0, .string x, .int .i64 (mergeR m.f2 y.f2)] 58 (0, 0)) from hb_set HM5.out 0 _)
                refine hK.out _ _ (HS.out _ (hb_far HK5.out (by have := HL13.out; show g13 ≠ g11; omega) _)) (fun hHeld => ?_)
                clear hK K
                refine done_ (by kernel_rfl) ?_
                clear hHeld
                have HC6 := Aside0.mk (show Chg (fun k => k = g11) W11 ((w4.setCell ⟨g11, 2, none⟩ (.int .i64 (mergeR m.f2 y.f2))).setCell ⟨g11, 0, none⟩ (.int .i64 y.f0)) from
                  ((HC13.out.trans (Chg.of_new (S := fun k => k = g11) HB4.out) (fun _ _ e => e)).trans (Chg.set (S := fun k => k = g11) w4 ⟨g11, 2, none⟩ _ rfl) (fun _ _ e => e)).trans (Chg.set (S := fun k => k = g11) _ ⟨g11, 0, none⟩ _ rfl) (fun _ _ e => e))
                go_wp2
                go_roundg k5
                case measure => omega
                case rel => exact ⟨j + 1, by rw [HJ.out], by omega, ⟨by rw [HST.out]; exact HM6.out, HC6.out⟩⟩
              · have e2 : (y.f1.toList == x.toList) = false := by
                  rw [beq_eq_false_iff_ne]
                  exact fun h => hp ((Lib.bytes_beq_iff y.f1 x).1 (beq_iff_eq.2 h))
                have HST := Aside0.mk (show mAt seg x (j + 1) = m by rw [HMS.out]; unfold refStep; rw [if_neg hp])
                clear hp
                go_wp2
                go_roundg k5
                case measure => omega
                case rel => exact ⟨j + 1, by rw [HJ.out], by omega, ⟨by rw [HST.out]; exact HM13.out, HC13.out⟩⟩
end Go.Proofs.Ytcikmpcacakfbaa.QFilewatchBatches
