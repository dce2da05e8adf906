/-
  FilewatchWatcher: the law's walk (function 6).
-/
import Derived.Test.YtcikmpcacakfbaaHandFwW6
namespace Go.Proofs.Ytcikmpcacakfbaa.QFilewatchBatches
open Go.RowKit Go.Proofs.YtcikmpcacakfbaaW.PrintWords Go.Proofs.YtcikmpcacakfbaaW.PrintLast Go.Proofs.YtcikmpcacakfbaaW.PrintMore Go.Proofs.Ytcikmpcacakfbaa.Hand
attribute [local go_sem] max2_int min2_int max_two min_two max_three min_three max_four min_four
set_option linter.unusedVariables false
set_option linter.unusedSimpArgs false
theorem seg_to {w : World} {A0 : Option Addr} {l : List S58} {c0 m : Nat} (h : Kd.C k58 w A0 l.length l) (hc : l.length ≤ c0) (h2 : m ≤ l.length) :
    Kd.C k58 w A0 (l.take m).length (l.take m) ∧ ∀ W : World, (Instr.slice 38 (.slice A0 l.length c0) none (some (.int .i64 (m : Int))) none).run Try.prog W = .ok (.slice A0 (l.take m).length c0) W := by
  obtain ⟨i0, hi, _, hsz, _⟩ := info_parts info58
  have hcut := cut_to (P := Try.prog) 38 58 .i64 Try.underlying38 hi A0 l.length c0 (m : Int) (by omega) (by omega) hc
  refine ⟨Kd.C_take h h2, fun W => ?_⟩
  rw [hcut W, Int.toNat_natCast, List.length_take, Nat.min_eq_left h2]
def WPost (w : World) (e : Ending) (w' : World) : Prop := e = .returned (.bool true) ∧ Below w.heap.size w w'
set_option maxRecDepth 100000 in
set_option maxHeartbeats 16000000 in
theorem watcher_calls (kx : Nat) (hex : glossatorlaw3_watchExample.f kx = some true) (d : Int) (A1 : Option Addr) (c1 : Nat) (l1 : List S58) (w : World) (hr1 : Kd.C k58 w A1 l1.length l1) (hc1 : l1.length ≤ c1) (hs : ∀ e ∈ l1, e.f1.size ≤ maxLen) (ht : ∀ e ∈ l1, e.f0 ≤ 9223372036854775807) :
    Calls Try.prog 6 #[.int .i64 d, .slice A1 l1.length c1] w (WPost w) := by
  have HX := Aside0.mk (fun X => glossatorlaw3_watchExample.calls kx true X hex)
  have HR1 := Aside0.mk hr1
  have HC1 := Aside0.mk hc1
  have HSZ := Aside0.mk hs
  have HTM := Aside0.mk ht
  clear hex hr1 hc1 hs ht
  by_cases c1_ : d < 0
  · have b1 := decide_eq_true c1_
    have HN := Aside0.mk (fun X => (new_calls d X).mono (fun e w' h => by unfold NewPost at h; rw [if_pos (.inl c1_)] at h; exact h))
    clear c1_
    go_enter Try.func6, Try.ntmps6
    go_upto_region 3 with (go_at_call 16; refine (HX.out _).mono ?_; rintro e w2 ⟨rfl, hb⟩; have HB2 := Aside0.mk hb; clear hb)
    go_upto_region 4 with (go_at_call 28; refine (HN.out _).mono ?_; rintro e w3 ⟨rfl, rfl⟩)
    go_wp2_with (go_at_call 16; refine (HX.out _).mono ?_; rintro e w4 ⟨rfl, hb⟩; have HB4 := Aside0.mk hb; clear hb)
    go_ret
    exact ⟨rfl, HB2.out.trans (HB4.out.mono HB2.out.size)⟩
  · have b1 := decide_eq_false c1_
    by_cases c2_ : d > 1000000
    · have b2 := decide_eq_true c2_
      have HN := Aside0.mk (fun X => (new_calls d X).mono (fun e w' h => by unfold NewPost at h; rw [if_pos (.inr c2_)] at h; exact h))
      clear c1_ c2_
      go_enter Try.func6, Try.ntmps6
      go_upto_region 3 with (go_at_call 16; refine (HX.out _).mono ?_; rintro e w2 ⟨rfl, hb⟩; have HB2 := Aside0.mk hb; clear hb)
      go_upto_region 4 with (go_at_call 28; refine (HN.out _).mono ?_; rintro e w3 ⟨rfl, rfl⟩)
      go_wp2_with (go_at_call 16; refine (HX.out _).mono ?_; rintro e w4 ⟨rfl, hb⟩; have HB4 := Aside0.mk hb; clear hb)
      go_ret
      exact ⟨rfl, HB2.out.trans (HB4.out.mono HB2.out.size)⟩
    · have b2 := decide_eq_false c2_
      have HN := Aside0.mk (fun X => (new_calls d X).mono (fun e w' h => by unfold NewPost at h; rw [if_neg (fun h => h.elim c1_ c2_)] at h; exact h))
      have HD := Aside0.mk (show 0 ≤ d ∧ d ≤ 1000000 by omega)
      obtain ⟨m, hm⟩ : ∃ m, min l1.length 40 = m := ⟨_, rfl⟩
      have hml : m ≤ l1.length := by omega
      have hm40 : m ≤ 40 := by omega
      have hji : (if 40 < (l1.length : Int) then 40 else (l1.length : Int)) = (m : Int) := by rw [← hm]; split <;> omega
      obtain ⟨hCm, hsl⟩ := seg_to (m := m) HR1.out HC1.out hml
      obtain ⟨l, hl⟩ : ∃ l, l1.take m = l := ⟨_, rfl⟩
      rw [hl] at hCm hsl
      have HCL := Aside0.mk hCm
      have HLL := Aside0.mk (show l.length ≤ 40 by rw [← hl, List.length_take]; omega)
      have HSZL := Aside0.mk (show ∀ e ∈ l, e.f1.size ≤ maxLen ∧ e.f0 ≤ 9223372036854775807 from fun e he => by
        rw [← hl] at he
        exact ⟨HSZ.out e (List.mem_of_mem_take he), HTM.out e (List.mem_of_mem_take he)⟩)
      clear hm hml hm40 hCm hl
      clear c1_ c2_
      go_enter Try.func6, Try.ntmps6
      go_upto_region 3 with (go_at_call 16; refine (HX.out _).mono ?_; rintro e w2 ⟨rfl, hb⟩; have HB2 := Aside0.mk hb; clear hb)
      go_upto_region 4 with (go_at_call 28; refine (HN.out _).mono ?_; rintro e w3 ⟨rfl, rfl⟩)
      go_upto_region 9 with (fail)
      have hb2 := HB2.out
      have hk4 : ((w2.alloc (.cells #[.int .i64 d, .int .i64 0, .slice none 0 0] 90)).alloc (.cells #[.int .i64 d, .int .i64 0, .slice none 0 0] 56)).heap[w2.heap.size]? = some (.cells #[.int .i64 d, .int .i64 0, .slice none 0 0] 90 (0, 0)) := hb_alloc (hb_new _ _)
      have hk5 : ((w2.alloc (.cells #[.int .i64 d, .int .i64 0, .slice none 0 0] 90)).alloc (.cells #[.int .i64 d, .int .i64 0, .slice none 0 0] 56)).heap[w2.heap.size + 1]? = some (.cells #[.int .i64 d, .int .i64 0, .slice none 0 0] 56 (0, 0)) := by
        have := hb_new (w2.alloc (.cells #[.int .i64 d, .int .i64 0, .slice none 0 0] 90)) (.cells #[.int .i64 d, .int .i64 0, .slice none 0 0] 56)
        rwa [World.size_alloc] at this
      have hbb : Below w.heap.size w ((w2.alloc (.cells #[.int .i64 d, .int .i64 0, .slice none 0 0] 90)).alloc (.cells #[.int .i64 d, .int .i64 0, .slice none 0 0] 56)) := (hb2.alloc hb2.size _).alloc (by rw [World.size_alloc]; have := hb2.size; omega) _
      have hT : Two w ((w2.alloc (.cells #[.int .i64 d, .int .i64 0, .slice none 0 0] 90)).alloc (.cells #[.int .i64 d, .int .i64 0, .slice none 0 0] 56)) w2.heap.size (w2.heap.size + 1) (.slice none 0 0) (.slice none 0 0) ⟨d, 0, []⟩ ⟨d, 0, []⟩ :=
        ⟨⟨hk4, Kd.R_nil _ _ _ _ _⟩, ⟨hk5, Kd.R_nil _ _ _ _ _⟩, by omega, (fun k hk => by cases hk), (fun k hk => by cases hk), ⟨hb2.size, by have := hb2.size; omega⟩, hbb⟩
      obtain ⟨g2, hg2⟩ : ∃ g2, w2.heap.size + 1 = g2 := ⟨_, rfl⟩
      obtain ⟨g1, hg1⟩ : ∃ g1, w2.heap.size = g1 := ⟨_, rfl⟩
      obtain ⟨W4, hW4⟩ : ∃ W4, (w2.alloc (.cells #[.int .i64 d, .int .i64 0, .slice none 0 0] 90)).alloc (.cells #[.int .i64 d, .int .i64 0, .slice none 0 0] 56) = W4 := ⟨_, rfl⟩
      rw [hW4] at hT ⊢
      rw [hg2] at hT ⊢
      rw [hg1] at hT ⊢
      have HT := Aside0.mk hT
      have HOK := Aside0.mk (show WOk ⟨d, 0, []⟩ 0 from ⟨HD.out, Int.le_refl 0, Nat.le_refl _, by simp, by simp⟩)
      clear hb2 hk4 hk5 hbb hT hg1 hg2 hW4
      go_wp2
      go_loopg [51] l.length (fun kq v51 W => ∃ i : Nat, v51 = .int .i64 (i : Int) ∧ kq + i = l.length ∧ Aside0 (∃ s v1 v2, Two w W g1 g2 v1 v2 s s ∧ WOk s i))
      case atStart => exact ⟨0, rfl, by omega, ⟨_, _, _, HT.out, HOK.out⟩⟩
      case round =>
        obtain ⟨i, rfl, hi, hA⟩ := hrel
        obtain ⟨s, v1, v2, hT, hO⟩ := hA.out
        clear hA
        cases gk with
        | zero =>
          have c0 : decide ((i : Int) < (l.length : Int)) = false := decide_eq_false (by omega)
          have c0' : decide (i < l.length) = false := decide_eq_false (by omega)
          have HB5 := Aside0.mk hT.below
          clear hi hT hO
          go_wp2_with (go_at_call 16; refine (HX.out _).mono ?_; rintro e w6 ⟨rfl, hb⟩; have HB6 := Aside0.mk hb; clear hb)
          go_ret
          exact ⟨rfl, HB5.out.trans (HB6.out.mono HB5.out.size)⟩
        | succ k2 =>
          have c0 : decide ((i : Int) < (l.length : Int)) = true := decide_eq_true (by omega)
          have c0' : decide (i < l.length) = true := decide_eq_true (by omega)
          have hil : i < l.length := by omega
          obtain ⟨x, hx⟩ : ∃ x, rd_T58 l (i : Int) = x := ⟨_, rfl⟩
          obtain ⟨ad, hA1, x0, x1, x2⟩ := at_T58 (Kd.C_below HCL.out hT.below) (i : Int) (by omega) (by omega)
          subst hA1
          rw [hx, Int.toNat_natCast] at x0 x1 x2
          have r0 := eq_true (show (0 : Int) ≤ (i : Int) by omega)
          have r1 := eq_true (show (i : Int) < (l.length : Int) by omega)
          have r2 := eq_true hil
          have HXS := Aside0.mk (show x.f1.size ≤ maxLen ∧ x.f0 ≤ 9223372036854775807 from HSZL.out x (by rw [← hx]; exact rd58_mem (by omega) (by omega)))
          have HI := Aside0.mk (show wrap64 ((i : Int) + 1) = ((i + 1 : Nat) : Int) by have := HLL.out; unfold wrap64; omega)
          have HT1 := Aside0.mk hT
          have HO1 := Aside0.mk (hO.mono (show i ≤ 40 by have := HLL.out; omega))
          have HO2 := Aside0.mk hO
          clear hil hx hT hO
          go_upto_region 12 with (fail)
          obtain ⟨b9, hb9⟩ : ∃ b9, wr.heap.size = b9 := ⟨_, rfl⟩
          obtain ⟨W5, hW5⟩ : ∃ W5, wr.alloc (.cells #[.int .i64 x.f0, .string x.f1, .int .i64 x.f2] 58) = W5 := ⟨_, rfl⟩
          have hb5 : Below wr.heap.size wr W5 := by rw [← hW5]; exact below_alloc (Below.refl _ _) _
          have hk5 : W5.heap[b9]? = some (.cells #[.int .i64 x.f0, .string x.f1, .int .i64 x.f2] 58 (0, 0)) := by rw [← hW5, ← hb9]; exact hb_new _ _
          rw [hW5, hb9]
          have HT5 := Aside0.mk (HT1.out.old hb5)
          have HK5 := Aside0.mk hk5
          have HN5 := Aside0.mk (show b9 ≠ g1 ∧ b9 ≠ g2 ∧ (∀ k, v1.ownBlock = some k → k ≠ b9) ∧ ∀ k, v2.ownBlock = some k → k ≠ b9 from
            ⟨by have := HT1.out.one.lt; omega, by have := HT1.out.two.lt; omega, fun k hk => by have := HT1.out.one.own_lt hk; omega, fun k hk => by have := HT1.out.two.own_lt hk; omega⟩)
          clear hb9 hW5 hb5 hk5 x0 x1 x2 r0 r1 r2 c0 c0'
          have x0 : W5.cell? ⟨b9, 0, none⟩ = some (.int .i64 x.f0) := (cells_of_blk HK5.out 0).trans rfl
          have x1 : W5.cell? ⟨b9, 1, none⟩ = some (.string x.f1) := (cells_of_blk HK5.out 1).trans rfl
          have x2 : W5.cell? ⟨b9, 2, none⟩ = some (.int .i64 x.f2) := (cells_of_blk HK5.out 2).trans rfl
          by_cases kn : x.f2 < 0
          · have e1 := decide_eq_true kn
            clear kn
            go_upto_region 13 with (fail)
            obtain ⟨T, evs, rd, s', hr⟩ : ∃ T evs rd s', goPoll s x.f0 = (T, evs, rd, s') := ⟨_, _, _, _, rfl⟩
            have hO' : WOk s' i := by have := poll_ok HO2.out x.f0; rw [hr] at this; exact this
            have hEL : evs.length ≤ 40 := by have := poll_len HO1.out x.f0; rw [hr] at this; exact this
            have hr2 : refPollR s x.f0 = (T, evs, rd, s') := by rw [← poll_eq HO1.out x.f0 HXS.out.2]; exact hr
            have P1 := Aside0.mk (show Calls Try.prog 29 #[.pointer (some ⟨g1, 0, none⟩), .int .i64 x.f0] W5 fun e w' => ∃ V c v1', e = .returned (.tuple #[.agg #[.int .i64 T, .slice V evs.length c], .bool rd]) ∧ Kd.R k58 58 w' W5.heap.size (fun _ => True) (.slice V evs.length c) evs ∧ Two w w' g1 g2 v1' v2 s' s ∧ Chg (fun k => k = g1 ∨ some k = v1.ownBlock) W5 w' from by
              refine (poll_calls g1 v1 s x.f0 W5 HT5.out.one (by have := HO1.out.len; omega) HO1.out.sizes).mono ?_
              rintro e w' ⟨va, v1', rfl, h1, h2, h3, h4⟩
              rw [hr] at h1 h2 ⊢
              obtain ⟨V, c, rfl⟩ := Kd.R_slice h1
              exact ⟨V, c, v1', rfl, h1, HT5.out.step1 h2 h3 h4, h3⟩)
            have P2 := Aside0.mk (show ∀ v1' X, Two w X g1 g2 v1' v2 s' s → Calls Try.prog 30 #[.pointer (some ⟨g2, 0, none⟩), .int .i64 x.f0] X fun e w' => ∃ V c v2', e = .returned (.tuple #[.agg #[.int .i64 T, .slice V evs.length c], .bool rd]) ∧ Kd.R k58 58 w' X.heap.size (fun _ => True) (.slice V evs.length c) evs ∧ Two w w' g1 g2 v1' v2' s' s' ∧ Chg (fun k => k = g2 ∨ some k = v2.ownBlock) X w' from fun v1' X hX => by
              refine (refPoll_calls g2 v2 s x.f0 X hX.two (by have := HO1.out.len; omega)).mono ?_
              rintro e w' ⟨va, v2', rfl, h1, h2, h3, h4⟩
              rw [hr2] at h1 h2 ⊢
              obtain ⟨V, c, rfl⟩ := Kd.R_slice h1
              exact ⟨V, c, v2', rfl, h1, hX.step2 h2 h3 h4, h3⟩)
            have HO' := Aside0.mk hO'
            have HEL := Aside0.mk hEL
            clear hr hr2 hO' hEL
            go_upto_region 14 with (go_at_call 29; refine P1.out.mono ?_; rintro e w6 ⟨V6, c6, v1', rfl, hr6, hT6, hc6⟩; have HR6 := Aside0.mk hr6; have HT6 := Aside0.mk hT6; have HC6 := Aside0.mk hc6; clear hr6 hT6 hc6)
            obtain ⟨bA, hbA⟩ : ∃ bA, w6.heap.size = bA := ⟨_, rfl⟩
            obtain ⟨W7, hW7⟩ : ∃ W7, w6.alloc (.cells #[.int .i64 T, .slice V6 evs.length c6] 60) = W7 := ⟨_, rfl⟩
            have hb7 : Below w6.heap.size w6 W7 := by rw [← hW7]; exact below_alloc (Below.refl _ _) _
            have hk7 : W7.heap[bA]? = some (.cells #[.int .i64 T, .slice V6 evs.length c6] 60 (0, 0)) := by rw [← hW7, ← hbA]; exact hb_new _ _
            have hr7 := Kd.R_step HR6.out (fun k _ hk => hb7.block k hk)
            have hk59 : W7.heap[b9]? = some (.cells #[.int .i64 x.f0, .string x.f1, .int .i64 x.f2] 58 (0, 0)) := (hb7.block b9 (by have := lt_of_blk HK5.out; have := HC6.out.size; omega)).trans (HC6.out.at HK5.out (fun e => e.elim HN5.out.1 (fun e => HN5.out.2.2.1 _ e.symm rfl)))
            rw [hW7, hbA]
            have HBA := Aside0.mk hbA
            have HT7 := Aside0.mk (HT6.out.old hb7)
            have HK7 := Aside0.mk hk7
            have HR7 := Aside0.mk hr7
            have HK59 := Aside0.mk hk59
            have HSZ7 := Aside0.mk (show W5.heap.size ≤ bA ∧ bA < W7.heap.size by rw [← hbA]; exact ⟨HC6.out.size, by rw [hbA]; exact lt_of_blk hk7⟩)
            clear x0 x1 x2 hbA hW7 hb7 hk7 hr7 hk59
            have x0 : W7.cell? ⟨b9, 0, none⟩ = some (.int .i64 x.f0) := (cells_of_blk HK59.out 0).trans rfl
            go_upto_region 15 with (go_at_call 30; refine (P2.out v1' _ HT7.out).mono ?_; rintro e w8 ⟨V8, c8, v2', rfl, hr8, hT8, hc8⟩; have HR8 := Aside0.mk hr8; have HT8 := Aside0.mk hT8; have HC8 := Aside0.mk hc8; clear hr8 hT8 hc8)
            obtain ⟨bB, hbB⟩ : ∃ bB, w8.heap.size = bB := ⟨_, rfl⟩
            obtain ⟨W9, hW9⟩ : ∃ W9, w8.alloc (.cells #[.int .i64 T, .slice V8 evs.length c8] 60) = W9 := ⟨_, rfl⟩
            have hb9 : Below w8.heap.size w8 W9 := by rw [← hW9]; exact below_alloc (Below.refl _ _) _
            have hk9 : W9.heap[bB]? = some (.cells #[.int .i64 T, .slice V8 evs.length c8] 60 (0, 0)) := by rw [← hW9, ← hbB]; exact hb_new _ _
            have hr9 := (Kd.R_reads' (Kd.R_step HR8.out (fun k _ hk => hb9.block k hk)))
            have h2l : g2 < W5.heap.size ∧ ∀ k, v2.ownBlock = some k → k < W5.heap.size := ⟨HT5.out.two.lt, fun k hk => HT5.out.two.own_lt hk⟩
            have hkA : W9.heap[bA]? = some (.cells #[.int .i64 T, .slice V6 evs.length c6] 60 (0, 0)) := (hb9.block bA (by have := HSZ7.out.2; have := HC8.out.size; omega)).trans (HC8.out.at HK7.out (fun e => e.elim (fun e => by have := HSZ7.out.1; omega) (fun e => by have := h2l.2 _ e.symm; have := HSZ7.out.1; omega)))
            have hrA := (Kd.R_reads' (Kd.R_step (Kd.R_bound HR7.out) (fun k hk hlt => (hb9.block k (by have := HC8.out.size; omega)).trans (HC8.out.block k hlt (fun e => e.elim (fun e => by have := hk.2.1; omega) (fun e => by have := h2l.2 _ e.symm; have := hk.2.1; omega))))))
            rw [hW9, hbB]
            have HT9 := Aside0.mk (HT8.out.old hb9)
            have HK9 := Aside0.mk hk9
            have HKA := Aside0.mk hkA
            have HR9 := Aside0.mk hr9
            have HRA := Aside0.mk hrA
            clear x0 hbB hW9 hb9 hk9 hr9 h2l hkA hrA
            have y0 : W9.cell? ⟨bA, 0, none⟩ = some (.int .i64 T) := (cells_of_blk HKA.out 0).trans rfl
            have y1 : W9.cell? ⟨bA, 1, none⟩ = some (.slice V6 evs.length c6) := (cells_of_blk HKA.out 1).trans rfl
            have z0 : W9.cell? ⟨bB, 0, none⟩ = some (.int .i64 T) := (cells_of_blk HK9.out 0).trans rfl
            have z1 : W9.cell? ⟨bB, 1, none⟩ = some (.slice V8 evs.length c8) := (cells_of_blk HK9.out 1).trans rfl
            have zz0 : (W9.alloc (.cells #[.int .i64 T, .slice V6 evs.length c6] 60)).cell? ⟨bB, 0, none⟩ = some (.int .i64 T) := (cells_of_blk (hb_alloc HK9.out) 0).trans rfl
            have zz1 : (W9.alloc (.cells #[.int .i64 T, .slice V6 evs.length c6] 60)).cell? ⟨bB, 1, none⟩ = some (.slice V8 evs.length c8) := (cells_of_blk (hb_alloc HK9.out) 1).trans rfl
            obtain ⟨kE, hkE⟩ := eqB1 ⟨T, evs⟩ (by show evs.length ≤ _; have := HEL.out; omega)
            have HEQ := Aside0.mk (show ∀ (X : World) (ba bb : Nat), Below W9.heap.size W9 X → X.heap[ba]? = some (.cells #[.int .i64 T, .slice V6 evs.length c6] 60 (0, 0)) → X.heap[bb]? = some (.cells #[.int .i64 T, .slice V8 evs.length c8] 60 (0, 0)) → Calls Try.prog 19 #[.slice (some ⟨ba, 0, none⟩) 1 1, .slice (some ⟨bb, 0, none⟩) 1 1] X fun e w' => e = .returned (.bool true) ∧ Below X.heap.size X w' from fun X ba bb hX ha hb =>
              glossatorref3_EqualBatches.calls kE (some ⟨ba, 0, none⟩) 1 [⟨T, evs⟩] (some ⟨bb, 0, none⟩) 1 [⟨T, evs⟩] true X (one60 (x := ⟨T, evs⟩) ha HRA.out.2.1 (Kd.C_below HRA.out.2.2 hX)) (by simp) (one60 (x := ⟨T, evs⟩) hb HR9.out.2.1 (Kd.C_below HR9.out.2.2 hX)) (by simp) hkE)
            clear hkE
            have HFIN := Aside0.mk (show ∀ X : World, Below W9.heap.size W9 X → ∃ s v1 v2, Two w X g1 g2 v1 v2 s s ∧ WOk s (i + 1) from fun X hX => ⟨s', v1', v2', HT9.out.old hX, HO'.out.mono (by omega)⟩)
            cases rd with
            | false =>
              go_wp2_with (go_at_call 19; refine (HEQ.out _ _ _ (below_alloc (below_alloc (Below.refl _ _) _) _) (hb_alloc (hb_new _ _)) (by first | exact hb_new _ _ | (have h_ := hb_new (W9.alloc (.cells #[.int .i64 T, .slice V6 evs.length c6] 60)) (.cells #[.int .i64 T, .slice V8 evs.length c8] 60); rw [World.size_alloc] at h_; exact h_))).mono ?_; rintro e wE ⟨rfl, hbE⟩; have HBE := Aside0.mk ((below_alloc (below_alloc (Below.refl W9.heap.size W9) _) _).trans (hbE.mono (by simp; omega))); clear hbE)
              go_roundg k2
              case measure => omega
              case rel => exact ⟨i + 1, by rw [HI.out], by omega, ⟨HFIN.out _ HBE.out⟩⟩
            | true =>
              go_wp2_with (go_at_call 19; refine (HEQ.out _ _ _ (below_alloc (below_alloc (Below.refl _ _) _) _) (hb_alloc (hb_new _ _)) (by first | exact hb_new _ _ | (have h_ := hb_new (W9.alloc (.cells #[.int .i64 T, .slice V6 evs.length c6] 60)) (.cells #[.int .i64 T, .slice V8 evs.length c8] 60); rw [World.size_alloc] at h_; exact h_))).mono ?_; rintro e wE ⟨rfl, hbE⟩; have HBE := Aside0.mk ((below_alloc (below_alloc (Below.refl W9.heap.size W9) _) _).trans (hbE.mono (by simp; omega))); clear hbE)
              go_roundg k2
              case measure => omega
              case rel => exact ⟨i + 1, by rw [HI.out], by omega, ⟨HFIN.out _ HBE.out⟩⟩
          · have e1 := decide_eq_false kn
            clear kn
            go_upto_region 17 with (fail)
            obtain ⟨r, s', hr⟩ : ∃ r s', addR compB s x = (r, s') := ⟨_, _, rfl⟩
            have hO' : WOk s' (i + 1) := by have := add_ok HO2.out x HXS.out.1; rw [hr] at this; exact this
            have hr2 : addR dueB s x = (r, s') := by rw [← add_eq HO1.out x HXS.out.2]; exact hr
            have P1 := Aside0.mk (show ∀ X : World, Below W5.heap.size W5 X → Calls Try.prog 31 #[.pointer (some ⟨g1, 0, none⟩), .agg #[.int .i64 x.f0, .string x.f1, .int .i64 x.f2]] X fun e w' => ∃ v1', e = .returned (.int .i64 r) ∧ Two w w' g1 g2 v1' v2 s' s ∧ w'.heap[b9]? = some (.cells #[.int .i64 x.f0, .string x.f1, .int .i64 x.f2] 58 (0, 0)) from fun X hX => by
              refine (goAdd_calls g1 v1 s x X (HT5.out.old hX).one (by have := HO1.out.len; omega)).mono ?_
              rintro e w' ⟨v1', rfl, h2, h3, h4⟩
              rw [hr] at h2 ⊢
              exact ⟨v1', rfl, (HT5.out.old hX).step1 h2 h3 h4, h3.at ((hX.block _ (lt_of_blk HK5.out)).trans HK5.out) (fun e => e.elim HN5.out.1 (fun e => HN5.out.2.2.1 _ e.symm rfl))⟩)
            have P2 := Aside0.mk (show ∀ v1' X, Two w X g1 g2 v1' v2 s' s → Calls Try.prog 32 #[.pointer (some ⟨g2, 0, none⟩), .agg #[.int .i64 x.f0, .string x.f1, .int .i64 x.f2]] X fun e w' => ∃ v2', e = .returned (.int .i64 r) ∧ Two w w' g1 g2 v1' v2' s' s' ∧ (X.heap[b9]? = some (.cells #[.int .i64 x.f0, .string x.f1, .int .i64 x.f2] 58 (0, 0)) → w'.heap[b9]? = some (.cells #[.int .i64 x.f0, .string x.f1, .int .i64 x.f2] 58 (0, 0))) from fun v1' X hX => by
              refine (refAdd_calls g2 v2 s x X hX.two (by have := HO1.out.len; omega)).mono ?_
              rintro e w' ⟨v2', rfl, h2, h3, h4⟩
              rw [hr2] at h2 ⊢
              exact ⟨v2', rfl, hX.step2 h2 h3 h4, fun hk => h3.at hk (fun e => e.elim HN5.out.2.1 (fun e => HN5.out.2.2.2 _ e.symm rfl))⟩)
            have HO' := Aside0.mk hO'
            clear hr hr2 hO' x0 x1 x2
            have HS := Aside0.mk (show ∀ X : World, X.heap[b9]? = some (.cells #[.int .i64 x.f0, .string x.f1, .int .i64 x.f2] 58 (0, 0)) → (X.cell? ⟨b9, 0, none⟩ = some (.int .i64 x.f0) ∧ X.cell? ⟨b9, 1, none⟩ = some (.string x.f1) ∧ X.cell? ⟨b9, 2, none⟩ = some (.int .i64 x.f2)) from fun X hX => ⟨(cells_of_blk hX 0).trans rfl, (cells_of_blk hX 1).trans rfl, (cells_of_blk hX 2).trans rfl⟩)
            refine start_ (n := 7) (S := fun w' => w'.cell? ⟨b9, 0, none⟩ = some (.int .i64 x.f0) ∧ w'.cell? ⟨b9, 1, none⟩ = some (.string x.f1) ∧ w'.cell? ⟨b9, 2, none⟩ = some (.int .i64 x.f2)) (ds := ([] : List Nat)) #[false, false, false, false, false, false, false] (by kernel_rfl) rfl rfl (HS.out _ HK5.out) (fun hHeld => ?_)
            refine pure_ (i := 0) (N := some 83) (v := ?_) (a' := ?_) #[true, false, false, false, false, false, false] rfl rfl (by kernel_rfl) (fun _ _ _ h => h) (Or.inl ⟨by rfl, ?_⟩) ?_ ?_
            rotate_left
            · intro w'
              go_simp
              with_reducible rfl
            rotate_left
            · simp only [Act.put, List.setIfInBounds_toArray, List.set_cons_zero, List.set_cons_succ, i64_w, i32_w]
              rfl
            refine pure_ (i := 3) (N := some 86) (v := ?_) (a' := ?_) #[true, false, false, true, false, false, false] rfl rfl (by kernel_rfl) (fun _ _ _ h => h) (Or.inl ⟨by rfl, ?_⟩) ?_ ?_
            rotate_left
            · intro w'
              go_simp
              with_reducible rfl
            rotate_left
            · simp only [Act.put, List.setIfInBounds_toArray, List.set_cons_zero, List.set_cons_succ, i64_w, i32_w]
              rfl
            refine take_ (i := 1) (N := some 84) (v := ?_) (a' := ?_) #[true, true, false, true, false, false, false] rfl rfl (by kernel_rfl) (fun _ _ _ h => h) (Or.inl ⟨by rfl, ?_⟩) hHeld ?_ ?_
            rotate_left
            · rintro w' ⟨s0_, s1_, s2_⟩
              go_simp
              with_reducible rfl
            rotate_left
            · simp only [Act.put, List.setIfInBounds_toArray, List.set_cons_zero, List.set_cons_succ, i64_w, i32_w]
              rfl
            refine take_ (i := 4) (N := some 87) (v := ?_) (a' := ?_) #[true, true, false, true, true, false, false] rfl rfl (by kernel_rfl) (fun _ _ _ h => h) (Or.inl ⟨by rfl, ?_⟩) hHeld ?_ ?_
            rotate_left
            · rintro w' ⟨s0_, s1_, s2_⟩
              go_simp
              with_reducible rfl
            rotate_left
            · simp only [Act.put, List.setIfInBounds_toArray, List.set_cons_zero, List.set_cons_succ, i64_w, i32_w]
              rfl
            refine one_ (i := 2) (N := some 85) #[true, true, true, true, true, false, false] rfl rfl (by kernel_rfl) (by decide) (fun K hK => ?_)
            refine goes_ Try.func31 (by kernel_rfl) rfl #[.pointer (some ⟨g1, 0, none⟩), .agg #[.int .i64 x.f0, .string x.f1, .int .i64 x.f2]] (by rfl) rfl rfl (by (try simp only [List.map_toArray, List.map_cons, List.map_nil]); first | done | rfl) ?_
            refine (P1.out _ (below_drew1 (Below.refl W5.heap.size W5))).mono ?_
            rintro e w6 ⟨v1', rfl, hT6, hk6⟩
            refine ⟨_, rfl, ?_⟩
            have HT6 := Aside0.mk hT6
            have HK6 := Aside0.mk hk6
            clear hT6 hk6
            refine hK.out _ _ (HS.out _ HK6.out) (fun hHeld => ?_)
            clear hK K
            refine norm_ (a' := ?_) ?_ ?_
            rotate_left
            · show Act.put _ (some 85) _ = _
              simp only [Act.put, List.setIfInBounds_toArray, List.set_cons_zero, List.set_cons_succ, i64_w, i32_w]
              rfl
            refine one_ (i := 5) (N := some 88) #[true, true, true, true, true, true, false] rfl rfl (by kernel_rfl) (by decide) (fun K hK => ?_)
            refine goes_ Try.func32 (by kernel_rfl) rfl #[.pointer (some ⟨g2, 0, none⟩), .agg #[.int .i64 x.f0, .string x.f1, .int .i64 x.f2]] (by rfl) rfl rfl (by (try simp only [List.map_toArray, List.map_cons, List.map_nil]); first | done | rfl) ?_
            refine (P2.out v1' _ HT6.out).mono ?_
            rintro e w7 ⟨v2', rfl, hT7, hk7⟩
            refine ⟨_, rfl, ?_⟩
            have HT7 := Aside0.mk hT7
            have HK7 := Aside0.mk (hk7 HK6.out)
            clear hT7 hk7
            refine hK.out _ _ (HS.out _ HK7.out) (fun hHeld => ?_)
            clear hK K
            refine norm_ (a' := ?_) ?_ ?_
            rotate_left
            · show Act.put _ (some 88) _ = _
              simp only [Act.put, List.setIfInBounds_toArray, List.set_cons_zero, List.set_cons_succ, i64_w, i32_w]
              rfl
            refine pure_ (i := 6) (N := some 89) (v := ?_) (a' := ?_) #[true, true, true, true, true, true, true] rfl rfl (by kernel_rfl) (fun _ _ _ h => h) (Or.inl ⟨by rfl, ?_⟩) ?_ ?_
            rotate_left
            · intro w'
              go_simp
              with_reducible rfl
            rotate_left
            · simp only [Act.put, List.setIfInBounds_toArray, List.set_cons_zero, List.set_cons_succ, i64_w, i32_w]
              rfl
            refine done_ (by kernel_rfl) ?_
            clear hHeld
            go_wp2
            go_roundg k2
            case measure => omega
            case rel => exact ⟨i + 1, by rw [HI.out], by omega, ⟨s', v1', v2', HT7.out, HO'.out⟩⟩
end Go.Proofs.Ytcikmpcacakfbaa.QFilewatchBatches
