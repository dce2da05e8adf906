-- Written by gen.py (this repo's wip/), which runs the kit's print.py with more arms. Lean checks it.
import Derived.Test.YtcikmpcacakfbaaQFilewatchBatchesx0
import Derived.Test.YtcikmpcacakfbaaQFilewatchBatchesx6
namespace Go.Proofs.Ytcikmpcacakfbaa.QFilewatchBatches
open Go.RowKit Go.Proofs.YtcikmpcacakfbaaW.PrintWords Go.Proofs.YtcikmpcacakfbaaW.PrintLast Go.Proofs.YtcikmpcacakfbaaW.PrintMore
attribute [local go_sem] max2_int min2_int max_two min_two max_three min_three max_four min_four   -- for this text's walks alone
set_option linter.unusedVariables false
set_option linter.unusedSimpArgs false

private theorem isEmpty_bne {α : Type} [BEq α] (l : List α) : (l != []) = !l.isEmpty := by cases l <;> rfl

section
open Go.Proofs.Ytcikmpcacakfbaa.Hand
def refStep (p : ByteArray) (m : S58) (e : S58) : S58 := if e.f1 = p then ⟨e.f0, p, mergeR m.f2 e.f2⟩ else m
def refEv (seg : List S58) (p : ByteArray) : S58 := seg.foldl (refStep p) ⟨0, p, 0⟩
def refOut (seg : List S58) (ks : List ByteArray) : List S58 := (ks.map (refEv seg)).filter (fun e => e.f2 != 0)
def refKeys (seg : List S58) : List ByteArray := sortS (seg.map S58.f1)
def refEvents (seg : List S58) : List S58 := refOut seg (refKeys seg)
def grp (d : Int) : S58 → List S58 → List S58 × List S58
  | _, [] => ([], [])
  | p, e :: t => if wrap64 (e.f0 - p.f0) < d then (e :: (grp d e t).1, (grp d e t).2) else ([], e :: t)
theorem grp_len (d : Int) : ∀ (p : S58) (l : List S58), (grp d p l).2.length ≤ l.length
  | _, [] => Nat.le_refl _
  | p, e :: t => by
    rw [grp]
    split
    · exact Nat.le_succ_of_le (grp_len d e t)
    · exact Nat.le_refl _
def lastTime (es : List S58) (delay : Int) : Int := wrap64 ((rd_T58 es ((es.length : Int) - 1)).f0 + delay)
def batchOf (d : Int) (seg : List S58) : List S60 := if (refEvents seg).length = 0 then [] else [⟨lastTime seg d, refEvents seg⟩]
def refAll (d : Int) : List S58 → List S60
  | [] => []
  | e :: t => batchOf d (e :: (grp d e t).1) ++ refAll d (grp d e t).2
  termination_by l => l.length
  decreasing_by have := grp_len d e t; simp; omega
theorem refAll_len (d : Int) : ∀ (n : Nat) (l : List S58), l.length ≤ n → (refAll d l).length ≤ l.length
  | 0, l, h => by
    obtain rfl : l = [] := List.eq_nil_of_length_eq_zero (by omega)
    rw [refAll]; exact Nat.le_refl _
  | n + 1, [], h => by rw [refAll]; exact Nat.le_refl _
  | n + 1, e :: t, h => by
    have h1 := grp_len d e t
    have h2 := refAll_len d n (grp d e t).2 (by simp at h; omega)
    rw [refAll, List.length_append, List.length_cons]
    have : (batchOf d (e :: (grp d e t).1)).length ≤ 1 := by
      unfold batchOf
      split <;> simp
    omega
def mAt (seg : List S58) (x : ByteArray) (j : Nat) : S58 := (seg.take j).foldl (refStep x) ⟨0, x, 0⟩
theorem fold_f1 (x : ByteArray) : ∀ (l : List S58) (m : S58), m.f1 = x → (l.foldl (refStep x) m).f1 = x
  | [], m, h => h
  | e :: t, m, h => by
    rw [List.foldl_cons]
    refine fold_f1 x t _ ?_
    unfold refStep
    split
    · rfl
    · exact h
theorem mAt_f1 (seg : List S58) (x : ByteArray) (j : Nat) : (mAt seg x j).f1 = x := fold_f1 x _ _ rfl
theorem mAt_end (seg : List S58) (x : ByteArray) : mAt seg x seg.length = refEv seg x := by unfold mAt; rw [List.take_length]; rfl
theorem rd58_at (l : List S58) (i : Nat) (h : i < l.length) : rd_T58 l (i : Int) = l[i] := by
  unfold rd_T58
  rw [Int.toNat_natCast, List.getD_eq_getElem?_getD, List.getElem?_eq_getElem h]
  rfl
theorem mAt_succ (seg : List S58) (x : ByteArray) (j : Nat) (h : j < seg.length) : mAt seg x (j + 1) = refStep x (mAt seg x j) (rd_T58 seg (j : Int)) := by
  unfold mAt
  rw [List.take_add_one, List.getElem?_eq_getElem h, List.foldl_append, rd58_at seg j h]
  rfl
theorem refOut_succ (seg : List S58) (ks : List ByteArray) (i : Nat) (h : i < ks.length) : refOut seg (ks.take (i + 1)) = refOut seg (ks.take i) ++ (if (refEv seg ks[i]).f2 != 0 then [refEv seg ks[i]] else []) := by
  unfold refOut
  rw [List.take_add_one, List.getElem?_eq_getElem h, List.map_append, List.filter_append]
  simp only [Option.toList_some, List.map_cons, List.map_nil, List.filter_cons, List.filter_nil]
theorem foldl_insS_len : ∀ (l acc : List ByteArray), (l.foldl insS acc).length ≤ acc.length + l.length
  | [], acc => Nat.le_refl _
  | x :: t, acc => by
    have h1 := foldl_insS_len t (insS acc x)
    have h2 := insS_len acc x
    rw [List.foldl_cons, List.length_cons]
    omega
theorem sortS_len (l : List ByteArray) : (sortS l).length ≤ l.length := by
  have := foldl_insS_len l []
  simpa [sortS] using this
theorem seg_cut {w : World} {A0 : Option Addr} {l : List S58} {c0 s e : Nat} (h : Kd.C k58 w A0 l.length l) (hc : l.length ≤ c0) (h1 : s ≤ e) (h2 : e ≤ l.length) :
    ∃ As cs, ((l.take e).drop s).length ≤ cs ∧ Kd.C k58 w As ((l.take e).drop s).length ((l.take e).drop s) ∧ ∀ W : World, (Instr.slice 38 (.slice A0 l.length c0) (some (.int .i64 (s : Int))) (some (.int .i64 (e : Int))) none).run Try.prog W = .ok (.slice As ((l.take e).drop s).length cs) W := by
  obtain ⟨i0, hi, _, hsz, _⟩ := info_parts info58
  have hcut := cut_mid (P := Try.prog) 38 58 .i64 .i64 Try.underlying38 hi 3 hsz A0 l.length c0 (s : Int) (e : Int) (by omega) (by omega) (by omega) hc
  have hr := Kd.C_mid (lo := s) (hi := e) (c := c0) h h1 h2 hc
  have hl : ((l.take e).drop s).length = e - s := by rw [List.length_drop, List.length_take]; omega
  refine ⟨_, c0 - s, by rw [hl]; omega, hr, fun W => ?_⟩
  have := hcut W
  rw [Int.toNat_natCast, Int.toNat_natCast] at this
  rw [this, hl]
  rfl
def BaPost (w : World) (l : List S58) (d : Int) (e : Ending) (w' : World) : Prop := ∃ v, e = .returned v ∧ Kd.S k60 60 w' w.heap.size (fun _ => True) v (refAll d l) ∧ Below w.heap.size w w'
/-- What is known of a group that begins at s and has come to e. -/
def GrpI (d : Int) (l : List S58) (s e : Nat) : Prop := s < e ∧ e ≤ l.length ∧ refAll d (l.drop s) = batchOf d ((l.take e).drop s ++ (grp d (rd_T58 l ((e : Int) - 1)) (l.drop e)).1) ++ refAll d (grp d (rd_T58 l ((e : Int) - 1)) (l.drop e)).2
theorem GrpI.start {d : Int} {l : List S58} {s : Nat} (h : s < l.length) : GrpI d l s (s + 1) := by
  refine ⟨Nat.lt_succ_self _, h, ?_⟩
  have e1 : ((s + 1 : Nat) : Int) - 1 = (s : Int) := by omega
  rw [e1, rd58_at l s h, List.drop_eq_getElem_cons h, refAll]
  have e2 : (l.take (s + 1)).drop s = [l[s]] := by
    rw [List.take_add_one, List.getElem?_eq_getElem h, List.drop_append_of_le_length (by rw [List.length_take]; omega)]
    rw [List.drop_eq_nil_of_le (by rw [List.length_take]; omega)]
    rfl
  rw [e2]
  rfl
theorem seg_snoc (l : List S58) (s e : Nat) (h1 : s ≤ e) (h2 : e < l.length) : (l.take (e + 1)).drop s = (l.take e).drop s ++ [l[e]] := by
  rw [List.take_add_one, List.getElem?_eq_getElem h2, List.drop_append_of_le_length (by rw [List.length_take]; omega)]
  rfl
theorem GrpI.more {d : Int} {l : List S58} {s e : Nat} (h : GrpI d l s e) (he : e < l.length) (ht : wrap64 ((rd_T58 l (e : Int)).f0 - (rd_T58 l ((e : Int) - 1)).f0) < d) : GrpI d l s (e + 1) := by
  obtain ⟨h1, h2, h3⟩ := h
  refine ⟨by omega, he, ?_⟩
  have e1 : ((e + 1 : Nat) : Int) - 1 = (e : Int) := by omega
  rw [h3, e1, List.drop_eq_getElem_cons he, grp, ← rd58_at l e he, if_pos ht, seg_snoc l s e (by omega) he, ← rd58_at l e he]
  simp
theorem GrpI.done {d : Int} {l : List S58} {s e : Nat} (h : GrpI d l s e) (hx : e = l.length ∨ (e < l.length ∧ ¬ wrap64 ((rd_T58 l (e : Int)).f0 - (rd_T58 l ((e : Int) - 1)).f0) < d)) : refAll d (l.drop s) = batchOf d ((l.take e).drop s) ++ refAll d (l.drop e) := by
  obtain ⟨h1, h2, h3⟩ := h
  rw [h3]
  rcases hx with hx | ⟨hx, ht⟩
  · rw [List.drop_eq_nil_of_le (by omega : l.length ≤ e), grp]
    simp
  · rw [List.drop_eq_getElem_cons hx, grp, ← rd58_at l e hx, if_neg ht]
    simp
theorem paths_ev (l : List S58) (hl : l.length < 100000) : ∀ (t : List S58) (i : Nat), l.drop i = t → ∃ k, glossatorref3_paths.l0 k ((l.take i).map S58.f1) l (l.length : Int) (i : Int) = some (refKeys l)
  | [], i, h => ⟨1, by
    have hi : l.length ≤ i := by simpa using h
    rw [glossatorref3_paths.l0, if_neg (by omega), List.take_of_length_le hi]
    unfold glossatorref3_SortStrings.f
    rw [if_pos (by rw [List.length_map]; omega)]
    rfl⟩
  | x :: t, i, h => by
    have hi : i < l.length := by
      rcases Nat.lt_or_ge i l.length with h1 | h1
      · exact h1
      · rw [List.drop_eq_nil_of_le h1] at h; cases h
    rw [List.drop_eq_getElem_cons hi] at h
    injection h with h1 h2
    obtain ⟨k, hk⟩ := paths_ev l hl t (i + 1) h2
    refine ⟨k + 1, ?_⟩
    rw [glossatorref3_paths.l0, if_pos (by omega), if_pos (by omega), if_pos (by omega), if_pos (by rw [List.length_map, List.length_take]; omega), rd58_at l i hi, show wrap64 ((i : Int) + 1) = ((i + 1 : Nat) : Int) by unfold wrap64; omega]
    rw [List.take_add_one, List.getElem?_eq_getElem hi, List.map_append] at hk
    exact hk
theorem paths_f (l : List S58) (hl : l.length < 100000) : ∃ k, glossatorref3_paths.f k l = some (refKeys l) := paths_ev l hl l 0 rfl
set_option maxRecDepth 100000 in
set_option maxHeartbeats 16000000 in
theorem refBatches_calls (A0 : Option Addr) (c0 : Nat) (l : List S58) (d : Int) (w : World) (hr : Kd.C k58 w A0 l.length l) (hc : l.length ≤ c0) (hl : l.length < 100000) :
    Calls Try.prog 20 #[.slice A0 l.length c0, .int .i64 d] w (BaPost w l d) := by
  have HR := Aside0.mk hr
  have HC := Aside0.mk hc
  have HL := Aside0.mk hl
  clear hr hc hl
  go_enter Try.func20, Try.ntmps20
  go_wp2
  go_loopg [5, 6] l.length (fun kq v5 v6 W => ∃ (s : Nat) (bs : List S60), v6 = .int .i64 (s : Int) ∧ kq + s = l.length ∧ Aside0 (bs ++ refAll d (l.drop s) = refAll d l ∧ Kd.S k60 60 W w.heap.size (fun _ => True) v5 bs ∧ Below w.heap.size w W))
  case atStart => exact ⟨0, [], rfl, by omega, ⟨rfl, Kd.S_nil _ _ _ _ _, Below.refl _ _⟩⟩
  case round =>
    obtain ⟨s, bs, rfl, hi, hA⟩ := hrel
    cases gk with
    | zero =>
      have hs : s = l.length := by omega
      have c0 : decide ((s : Int) < (l.length : Int)) = false := decide_eq_false (by omega)
      have c0' : decide (s < l.length) = false := decide_eq_false (by omega)
      have hdn := hA.out.1
      rw [List.drop_eq_nil_of_le (by omega), refAll, List.append_nil] at hdn
      subst hdn
      have HO := Aside0.mk hA.out.2.1
      have HB := Aside0.mk hA.out.2.2
      clear hA hi hs
      go_wp2
      go_ret
      exact ⟨_, rfl, HO.out, HB.out⟩
    | succ k2 =>
      have c0 : decide ((s : Int) < (l.length : Int)) = true := decide_eq_true (by omega)
      have c0' : decide (s < l.length) = true := decide_eq_true (by omega)
      have hsl : s < l.length := by omega
      have HG0 := Aside0.mk (GrpI.start (d := d) hsl)
      have HI := Aside0.mk (show wrap64 ((s : Int) + 1) = ((s + 1 : Nat) : Int) by have := HL.out; unfold wrap64; omega)
      have HSL := Aside0.mk hsl
      have HKS := Aside0.mk hi
      have HEQ := Aside0.mk hA.out.1
      have HBL := Aside0.mk (show bs.length < 100000 by
        have h1 := congrArg List.length hA.out.1
        rw [List.length_append] at h1
        have h2 := refAll_len d l.length l (Nat.le_refl _)
        have := HL.out
        omega)
      clear hsl hi
      go_upto_block 2 with (fail)
      rw [HI.out]
      go_cut [7] (fun v7 wc => ∃ e : Nat, v7 = .int .i64 (e : Int) ∧ Aside0 (s < e ∧ e ≤ l.length ∧ refAll d (l.drop s) = batchOf d ((l.take e).drop s) ++ refAll d (l.drop e) ∧ Kd.S k60 60 wc w.heap.size (fun _ => True) u5 bs ∧ Below w.heap.size w wc))
      case first =>
        go_wp2
        go_loopg [7] (l.length - (s + 1)) (fun kq v7 W => ∃ e : Nat, v7 = .int .i64 (e : Int) ∧ kq + e = l.length ∧ Aside0 (GrpI d l s e ∧ Kd.S k60 60 W w.heap.size (fun _ => True) u5 bs ∧ Below w.heap.size w W))
        case atStart => exact ⟨s + 1, rfl, by have := HKS.out; omega, ⟨HG0.out, hA.out.2⟩⟩
        case round =>
          obtain ⟨e, rfl, hi, hE⟩ := hrel
          cases gk with
          | zero =>
            have HEL := Aside0.mk (show e = l.length by omega)
            have q1 : decide ((e : Int) < (l.length : Int)) = false := decide_eq_false (by omega)
            have q2 : decide (e < l.length) = false := decide_eq_false (by omega)
            clear hi hA
            go_wp2
            go_quiet (fail)
            go_wp2
            go_meet
            case rel => exact ⟨e, rfl, ⟨hE.out.1.1, hE.out.1.2.1, hE.out.1.done (.inl HEL.out), Kd.S_drewN hE.out.2.1 _, pw_below_drewN hE.out.2.2 _⟩⟩
          | succ k3 =>
            have hel : e < l.length := by omega
            have he1 : 1 ≤ e := by have := hE.out.1.1; omega
            have q1 : decide ((e : Int) < (l.length : Int)) = true := decide_eq_true (by omega)
            have q2 : decide (e < l.length) = true := decide_eq_true (by omega)
            obtain ⟨a, ha⟩ : ∃ a, (rd_T58 l (e : Int)).f0 = a := ⟨_, rfl⟩
            obtain ⟨b, hb⟩ : ∃ b, (rd_T58 l ((e : Int) - 1)).f0 = b := ⟨_, rfl⟩
            have hCl := Kd.C_below HR.out hE.out.2.2
            obtain ⟨ad, rfl, x0, hx1_, hx2_⟩ := at_T58 hCl (e : Int) (by omega) (by omega)
            obtain ⟨ad', had, y0, hy1_, hy2_⟩ := at_T58 hCl ((e : Int) - 1) (by omega) (by omega)
            obtain rfl := Option.some.inj had
            rw [ha, Int.toNat_natCast] at x0
            rw [hb, show ((e : Int) - 1).toNat = e - 1 by omega] at y0
            have r0 := eq_true (show (0 : Int) ≤ (e : Int) by omega)
            have r1 := eq_true (show (e : Int) < (l.length : Int) by omega)
            have r2 := eq_true hel
            have r3 := eq_true (show (0 : Int) ≤ (e : Int) - 1 by omega)
            have r4 := eq_true (show (1 : Int) ≤ (e : Int) by omega)
            have r5 := eq_true (show (e : Int) - 1 < (l.length : Int) by omega)
            have r6 : IntKind.i64.wrap ((e : Int) - 1) = (e : Int) - 1 := by have := HL.out; rw [i64_w]; unfold wrap64; omega
            have HMORE := Aside0.mk (fun h => hE.out.1.more (d := d) hel (by rw [ha, hb]; exact h))
            have HDONE := Aside0.mk (fun h => hE.out.1.done (d := d) (.inr ⟨hel, by rw [ha, hb]; exact h⟩))
            have HI3 := Aside0.mk (show wrap64 ((e : Int) + 1) = ((e + 1 : Nat) : Int) by have := HL.out; unfold wrap64; omega)
            clear hCl hx1_ hx2_ hy1_ hy2_ had hel he1 ha hb hA
            cases ht : decide (wrap64 (a - b) < d) with
            | true =>
              have HT := Aside0.mk (of_decide_eq_true ht)
              go_wp2
              go_quiet (fail)
              go_wp2
              go_roundg k3
              case measure => omega
              case rel => exact ⟨e + 1, by rw [HI3.out], by omega, ⟨HMORE.out HT.out, Kd.S_drewN hE.out.2.1 _, pw_below_drewN hE.out.2.2 _⟩⟩
            | false =>
              have HT := Aside0.mk (of_decide_eq_false ht)
              go_wp2
              go_quiet (fail)
              go_wp2
              go_meet
              case rel => exact ⟨e, rfl, ⟨hE.out.1.1, hE.out.1.2.1, HDONE.out (by have := HT.out; omega), Kd.S_drewN hE.out.2.1 _, pw_below_drewN hE.out.2.2 _⟩⟩
      case rest =>
        obtain ⟨e, rfl, hC⟩ := hcut
        have hse := hC.out.1
        have hel := hC.out.2.1
        obtain ⟨seg, hseg⟩ : ∃ seg, (l.take e).drop s = seg := ⟨_, rfl⟩
        obtain ⟨As, cs, hcs, hCs, hsl⟩ := seg_cut HR.out HC.out (by omega : s ≤ e) hel
        rw [hseg] at hcs hCs hsl
        have hslen : seg.length = e - s := by rw [← hseg, List.length_drop, List.length_take]; omega
        have HSLEN := Aside0.mk hslen
        have HREF := Aside0.mk (show refAll d (l.drop s) = batchOf d seg ++ refAll d (l.drop e) by rw [hC.out.2.2.1, hseg])
        have HSO := Aside0.mk hC.out.2.2.2.1
        have HBW := Aside0.mk hC.out.2.2.2.2
        have HCS := Aside0.mk hCs
        have HCC := Aside0.mk hcs
        obtain ⟨t, ht⟩ : ∃ t, (rd_T58 l ((e : Int) - 1)).f0 = t := ⟨_, rfl⟩
        have HT := Aside0.mk (show lastTime seg d = wrap64 (t + d) by
          unfold lastTime
          rw [← ht]
          congr 2
          unfold rd_T58
          rw [show ((seg.length : Int) - 1).toNat = e - s - 1 by omega, show ((e : Int) - 1).toNat = e - 1 by omega, ← hseg]
          rw [List.getD_eq_getElem?_getD, List.getD_eq_getElem?_getD, List.getElem?_drop, List.getElem?_take_of_lt (by omega)]
          congr 3
          omega)
        have hCl := Kd.C_below HR.out HBW.out
        obtain ⟨ad, rfl, y0, hy1_, hy2_⟩ := at_T58 hCl ((e : Int) - 1) (by omega) (by omega)
        rw [ht, show ((e : Int) - 1).toNat = e - 1 by omega] at y0
        have r3 := eq_true (show (0 : Int) ≤ (e : Int) - 1 by omega)
        have r4 := eq_true (show (1 : Int) ≤ (e : Int) by omega)
        have r5 := eq_true (show (e : Int) - 1 < (l.length : Int) by omega)
        have q1 := HL.out
        have q2 : 0 < e := by omega
        have q3 := hel
        have HSE := Aside0.mk hse
        have HEL := Aside0.mk hel
        clear hC hCs hcs hCl hy1_ hy2_ ht hseg hslen hse hel c0 c0' hA
        go_upto_region 8 with (fail)
        obtain ⟨gb, hg⟩ : ∃ gb, wc.heap.size = gb := ⟨_, rfl⟩
        obtain ⟨W8, hW8⟩ : ∃ W8, wc.alloc (.cells #[.int .i64 (wrap64 (t + d)), .slice none 0 0] 60) = W8 := ⟨_, rfl⟩
        have hb8 : Below gb wc W8 := by rw [← hW8, ← hg]; exact below_alloc (Below.refl _ _) _
        have hk8 : W8.heap[gb]? = some (.cells #[.int .i64 (wrap64 (t + d)), .slice none 0 0] 60 (0, 0)) := by rw [← hW8, ← hg]; exact hb_new _ _
        have hz8 : W8.heap.size = gb + 1 := by rw [← hW8, ← hg]; simp
        rw [hW8, hg]
        have HG := Aside0.mk hg
        have HB8 := Aside0.mk hb8
        have HK8 := Aside0.mk hk8
        have HZ8 := Aside0.mk hz8
        have HGE := Aside0.mk (show w.heap.size ≤ gb by rw [← hg]; exact HBW.out.size)
        have HCS8 := Aside0.mk (Kd.C_below (Kd.C_below HCS.out HBW.out) (hb8.mono (by rw [← hg]; exact Nat.le_refl _)))
        clear hg hW8 hb8 hk8 hz8 y0 r3 r4 r5 q1 q2 q3
        obtain ⟨kp, hkp⟩ := paths_f seg (by have := HSLEN.out; have := HL.out; have := HEL.out; omega)
        have HKP := Aside0.mk hkp
        clear hkp
        go_wp2_with (go_at_call 48; refine (glossatorref3_paths.calls kp As cs seg _ _ HCS8.out HCC.out HKP.out).mono ?_; rintro e9 w9 ⟨v9, rfl, ho9, hb9⟩; obtain ⟨A9, c9, hv9⟩ := Kd.R_slice ho9; subst hv9; have HO9 := Aside0.mk ho9; have HB9 := Aside0.mk hb9; clear ho9 hb9)
        obtain ⟨ks, hks⟩ : ∃ ks, refKeys seg = ks := ⟨_, rfl⟩
        have HEV := Aside0.mk (show refEvents seg = refOut seg ks by unfold refEvents; rw [hks])
        have HKL := Aside0.mk (show ks.length < 100000 by
          rw [← hks]
          unfold refKeys
          have h1 := sortS_len (seg.map S58.f1)
          rw [List.length_map] at h1
          have := HSLEN.out; have := HL.out; have := HEL.out
          omega)
        have ho9 := HO9.out
        rw [hks] at ho9 ⊢
        have HO := Aside0.mk ho9
        have HK9 := Aside0.mk ((HB9.out.block _ (lt_of_blk HK8.out)).trans HK8.out)
        have HCS9 := Aside0.mk (Kd.C_below HCS8.out HB9.out)
        have HB89 := Aside0.mk (HB8.out.trans (HB9.out.mono (by have := HZ8.out; omega)))
        clear HO9 hks ho9 HKP
        go_loopg [57] ks.length (fun kq v57 W => ∃ i : Nat, v57 = .int .i64 (i : Int) ∧ kq + i = ks.length ∧ Aside0 (∃ V c, W.heap[gb]? = some (.cells #[.int .i64 (wrap64 (t + d)), .slice V (refOut seg (ks.take i)).length c] 60 (0, 0)) ∧ Kd.R k58 58 W w9.heap.size (fun _ => True) (.slice V (refOut seg (ks.take i)).length c) (refOut seg (ks.take i)) ∧ Chg (fun k => k = gb) w9 W))
        case atStart => exact ⟨0, rfl, by omega, ⟨none, 0, HK9.out, Kd.R_nil _ _ _ _ _, Chg.refl _ _⟩⟩
        case round =>
          obtain ⟨i, rfl, hi, hA⟩ := hrel
          obtain ⟨V, c, hkg, hrg, hch⟩ := hA.out
          clear hA
          cases gk with
          | zero =>
            have hie : i = ks.length := by omega
            have c0 : decide ((i : Int) < (ks.length : Int)) = false := decide_eq_false (by omega)
            have c0' : decide (i < ks.length) = false := decide_eq_false (by omega)
            rw [hie, List.take_length, ← HEV.out] at hkg hrg
            obtain ⟨evs, hev⟩ : ∃ evs, refEvents seg = evs := ⟨_, rfl⟩
            have hba : batchOf d seg = if evs.length = 0 then [] else [⟨wrap64 (t + d), evs⟩] := by unfold batchOf; rw [hev, HT.out]
            rw [hev] at hkg hrg
            have hbc : Below w.heap.size wc wr := ((HB89.out.mono HGE.out).trans (hch.to_below (fun k _ e => by have := HGE.out; omega) (by have := HGE.out; have := lt_of_blk HK9.out; omega)))
            have HBC := Aside0.mk (HBW.out.trans hbc)
            have hgw9 : gb < w9.heap.size := lt_of_blk HK9.out
            have hso : Kd.S k60 60 wr w.heap.size (fun k => True ∧ ¬ gb ≤ k) u5 bs :=
              Kd.S_mono (Kd.S_step (Kd.S_bound HSO.out) (fun k hk hlt => by
                have := HG.out
                exact (hch.block k (by omega) (by omega)).trans (HB89.out.block k (by omega)))) (fun k hk => ⟨trivial, by have := hk.2.2.1; have := HG.out; omega⟩)
            have HSO2 := Aside0.mk hso
            have HKG := Aside0.mk hkg
            have HRG := Aside0.mk hrg
            have HBA := Aside0.mk hba
            have HGW := Aside0.mk hgw9
            have HVB := Aside0.mk (fun k (hk : Value.ownBlock u5 = some k) => (show k < gb from by have h1 := (Kd.S_R (Kd.S_bound HSO.out)).1 k hk; have h2 := h1.2.2.1; have := HG.out; omega))
            clear hi hie hkg hrg hch hev hba hbc hgw9 hso
            have y1 : wr.cell? ⟨gb, 1, none⟩ = some (.slice V evs.length c) := (cells_of_blk HKG.out 1).trans rfl
            have y0 : wr.cell? ⟨gb, 0, none⟩ = some (.int .i64 (wrap64 (t + d))) := (cells_of_blk HKG.out 0).trans rfl
            by_cases hz : evs.length = 0
            · have b1 : decide ((evs.length : Int) > 0) = false := decide_eq_false (by omega)
              have b2 : decide (0 < (evs.length : Int)) = false := decide_eq_false (by omega)
              have b3 : decide (0 < evs.length) = false := decide_eq_false (by omega)
              have HBA2 := Aside0.mk (show batchOf d seg = [] by rw [HBA.out, if_pos hz])
              clear hz
              go_wp2
              go_roundg (l.length - e)
              case measure => have := HSE.out; have := HEL.out; have := HKS.out; omega
              case rel => exact ⟨e, bs, rfl, by have := HEL.out; omega, ⟨by have h := HEQ.out; rw [HREF.out, HBA2.out, List.nil_append] at h; exact h, Kd.S_mono HSO2.out (fun _ _ => trivial), HBC.out⟩⟩
            · have b1 : decide ((evs.length : Int) > 0) = true := decide_eq_true (by omega)
              have b2 : decide (0 < (evs.length : Int)) = true := decide_eq_true (by omega)
              have b3 : decide (0 < evs.length) = true := decide_eq_true (by omega)
              have HBA2 := Aside0.mk (show batchOf d seg = [⟨wrap64 (t + d), evs⟩] by rw [HBA.out, if_neg hz])
              clear hz
              have hrg2 : Kd.R k58 58 wr w.heap.size (fun k => gb ≤ k) (.slice V evs.length c) evs := Kd.R_lower (Kd.R_mono (Kd.R_bound HRG.out) (fun k hk => by have := hk.2.1; have := HGW.out; omega)) (by have := HGE.out; have := HGW.out; omega)
              have HRG2 := Aside0.mk hrg2
              clear hrg2
              go_wp2_with ((with_reducible refine gate_builtin (b := .append) (xs := #[.tmp 100, .tmp 102]) rfl ?_); at_builtin; refine Kd.S_append k60 (w0 := w) w.heap.size rfl (.tmp 100) (.tmp 102) 40 60 (.agg #[(.int .i64 0), (.slice none 0 0)]) 32 rfl Try.underlying40 info60 rfl (by decide) (by omega) u5 bs (⟨wrap64 (t + d), evs⟩ : S60) [.int .i64 (wrap64 (t + d)), .slice V evs.length c] (fun _ => True) (fun k => gb ≤ k) rfl rfl (k60_mkM _ _ _ ⟨wrap64 (t + d), evs⟩ HRG2.out) (fun k hk => ⟨trivial, fun he => absurd (HVB.out k he.symm) (by omega)⟩) (fun _ _ => trivial) HSO2.out HBC.out HBC.out.size (by have := HBL.out; omega) ?_; intro v5 w5 ho5 hb5 hg5 hat5; have HO5 := Aside0.mk ho5; have HB5 := Aside0.mk hb5; clear ho5 hb5 hg5 hat5)
              go_roundg (l.length - e)
              case measure => have := HSE.out; have := HEL.out; have := HKS.out; omega
              case rel => exact ⟨e, bs ++ [⟨wrap64 (t + d), evs⟩], rfl, by have := HEL.out; omega, ⟨by have h := HEQ.out; rw [HREF.out, HBA2.out, ← List.append_assoc] at h; exact h, HO5.out, HB5.out⟩⟩
          | succ k4 =>
            have c0 : decide ((i : Int) < (ks.length : Int)) = true := decide_eq_true (by omega)
            have c0' : decide (i < ks.length) = true := decide_eq_true (by omega)
            have hil : i < ks.length := by omega
            obtain ⟨x, hx⟩ : ∃ x, rdOf ByteArray.empty ks (i : Int) = x := ⟨_, rfl⟩
            have hco := (Kd.R_reads' (Kd.R_step (Kd.R_bound HO.out) (fun k hk _ => hch.block k hk.2.2.1 (by have := hk.2.1; have := HZ8.out; omega)))).2.2
            obtain ⟨ad9, rfl, x0⟩ := Kd.at_string hco (i : Int) (by omega) (by omega)
            rw [hx, Int.toNat_natCast] at x0
            have r0 := eq_true (show (0 : Int) ≤ (i : Int) by omega)
            have r1 := eq_true (show (i : Int) < (ks.length : Int) by omega)
            have r2 := eq_true hil
            have HOUT := Aside0.mk (show refOut seg (ks.take (i + 1)) = refOut seg (ks.take i) ++ (if (refEv seg x).f2 != 0 then [refEv seg x] else []) by
              rw [refOut_succ seg ks i hil]
              have : ks[i] = x := by rw [← hx]; unfold rdOf; rw [Int.toNat_natCast, List.getD_eq_getElem?_getD, List.getElem?_eq_getElem hil]; rfl
              rw [this])
            have HI4 := Aside0.mk (show wrap64 ((i : Int) + 1) = ((i + 1 : Nat) : Int) by have := HKL.out; unfold wrap64; omega)
            have HKG := Aside0.mk hkg
            have HRG := Aside0.mk hrg
            have HCH := Aside0.mk hch
            have HGS := Aside0.mk (show gb < w9.heap.size from lt_of_blk HK9.out)
            clear hil hx hkg hrg hch hco
            go_upto_block 6 with (fail)
            obtain ⟨g11, hg11⟩ : ∃ g11, wr.heap.size = g11 := ⟨_, rfl⟩
            obtain ⟨W11, hW11⟩ : ∃ W11, wr.alloc (.cells #[.int .i64 0, .string x, .int .i64 0] 58) = W11 := ⟨_, rfl⟩
            have hb11 : Below g11 wr W11 := by rw [← hW11, ← hg11]; exact below_alloc (Below.refl _ _) _
            have hk11 : W11.heap[g11]? = some (.cells #[.int .i64 0, .string x, .int .i64 0] 58 (0, 0)) := by rw [← hW11, ← hg11]; exact hb_new _ _
            have hlt11 : w9.heap.size ≤ g11 := by rw [← hg11]; exact HCH.out.size
            rw [hW11, hg11]
            have HL11 := Aside0.mk hlt11
            have HZ11 := Aside0.mk hg11
            have HB11 := Aside0.mk hb11
            have HK11 := Aside0.mk hk11
            have HBA := Aside0.mk (show Below w.heap.size w W11 from ((HBW.out.trans (HB89.out.mono HGE.out)).trans (HCH.out.to_below (fun k _ e => by have := HGE.out; omega) (by have := HGE.out; have := HGS.out; omega))).trans (hb11.mono (by have := HGE.out; have := HGS.out; omega)))
            clear hg11 hW11 hb11 hk11 hlt11 x0 r0 r1 r2 c0 c0'
            go_wp2
            go_loopg [68] seg.length (fun kq v68 W => ∃ j : Nat, v68 = .int .i64 (j : Int) ∧ kq + j = seg.length ∧ Aside0 (W.heap[g11]? = some (.cells #[.int .i64 (mAt seg x j).f0, .string x, .int .i64 (mAt seg x j).f2] 58 (0, 0)) ∧ Chg (fun k => k = g11) W11 W))
            case atStart => exact ⟨0, rfl, by omega, ⟨HK11.out, Chg.refl _ _⟩⟩
            case round =>
              obtain ⟨j, rfl, hj, hM⟩ := hrel
              cases gk with
              | zero =>
                have hje : j = seg.length := by omega
                have c0 : decide ((j : Int) < (seg.length : Int)) = false := decide_eq_false (by omega)
                have c0' : decide (j < seg.length) = false := decide_eq_false (by omega)
                have hm1 := hM.out.1
                rw [hje, mAt_end] at hm1
                obtain ⟨m, hm⟩ : ∃ m, refEv seg x = m := ⟨_, rfl⟩
                have hmx : m.f1 = x := by rw [← hm, ← mAt_end]; exact mAt_f1 _ _ _
                rw [hm] at hm1 HOUT
                have hx1 : x = m.f1 := hmx.symm
                rw [hx1] at hm1
                have hchA : Chg (fun k => k = gb) w9 wr := (HCH.out.trans (Chg.of_below (S := fun k => g11 ≤ k) HB11.out (fun k _ h => h)) (fun k h1 h2 => absurd h1 (by have := HL11.out; omega))).trans hM.out.2 (fun k h1 h2 => absurd h1 (by have := HL11.out; omega))
                have hgl : gb < g11 := by have := HGS.out; have := HL11.out; omega
                have hkgA : wr.heap[gb]? = some (.cells #[.int .i64 (wrap64 (t + d)), .slice V (refOut seg (ks.take i)).length c] 60 (0, 0)) := (hM.out.2.block gb (by have := lt_of_blk HK11.out; omega) (by omega)).trans ((HB11.out.block gb hgl).trans HKG.out)
                have hrgA : Kd.R k58 58 wr w9.heap.size (fun _ => True) (.slice V (refOut seg (ks.take i)).length c) (refOut seg (ks.take i)) :=
                  Kd.R_mono (Kd.R_step (Kd.R_bound HRG.out) (fun k hk _ => by
                    have hk3 := hk.2.2.1
                    have := HZ11.out
                    have := lt_of_blk HK11.out
                    exact (hM.out.2.block k (by omega) (by omega)).trans (HB11.out.block k (by omega)))) (fun _ _ => trivial)
                obtain ⟨os, hos⟩ : ∃ os, refOut seg (ks.take i) = os := ⟨_, rfl⟩
                rw [hos] at hkgA hrgA HOUT
                have HOL := Aside0.mk (show os.length < 100000 by
                  rw [← hos]
                  unfold refOut
                  have h1 := List.length_filter_le (fun e : S58 => e.f2 != 0) ((ks.take i).map (refEv seg))
                  rw [List.length_map, List.length_take] at h1
                  have := HKL.out
                  omega)
                have HKA := Aside0.mk hkgA
                have HRA := Aside0.mk hrgA
                have HCA := Aside0.mk hchA
                have HMA := Aside0.mk hm1
                clear hje hm1 hm hmx hx1 hchA hgl hkgA hrgA hos hM
                have x0 : wr.cell? ⟨g11, 0, none⟩ = some (.int .i64 m.f0) := (cells_of_blk HMA.out 0).trans rfl
                have x1 : wr.cell? ⟨g11, 1, none⟩ = some (.string m.f1) := (cells_of_blk HMA.out 1).trans rfl
                have x2 : wr.cell? ⟨g11, 2, none⟩ = some (.int .i64 m.f2) := (cells_of_blk HMA.out 2).trans rfl
                have y1 : wr.cell? ⟨gb, 1, none⟩ = some (.slice V os.length c) := (cells_of_blk HKA.out 1).trans rfl
                cases e1 : (m.f2 == 0) with
                | true =>
                  have e2 : (m.f2 != 0) = false := by rw [bne, e1]; rfl
                  have HE := Aside0.mk e2
                  go_wp2
                  go_roundg k4
                  case measure => omega
                  case rel => exact ⟨i + 1, by rw [HI4.out], by omega, ⟨V, c, by
                    rw [HOUT.out, HE.out]
                    simp only [Bool.false_eq_true, if_false, List.append_nil]
                    exact ⟨HKA.out, HRA.out, HCA.out⟩⟩⟩
                | false =>
                  have e2 : (m.f2 != 0) = true := by rw [bne, e1]; rfl
                  have HE := Aside0.mk e2
                  go_wp2_with ((with_reducible refine gate_builtin (b := .append) (xs := #[.tmp 90, .tmp 92]) rfl ?_); at_builtin; refine Kd.R_append k58 (w0 := wr) w9.heap.size rfl (.tmp 90) (.tmp 92) 38 58 (.agg #[.int .i64 0, .string ⟨#[]⟩, .int .i64 0]) 32 rfl Try.underlying38 info58 rfl (by decide) (by omega) (.slice V os.length c) os m [.int .i64 m.f0, .string m.f1, .int .i64 m.f2] (fun _ => True) (fun _ => False) rfl rfl (k58_mkM _ _ _ m) (fun _ h => h.elim) (fun _ _ => trivial) HRA.out (Below.refl _ _) HCA.out.size (by have := HOL.out; omega) ?_; intro v5 w5 ho5 hb5 hg5 hat5; (obtain ⟨V5, c5, hv5⟩ := Kd.R_slice ho5); (rw [List.length_append, List.length_singleton] at hv5); subst hv5; (have HO5 := Aside0.mk ho5); (have HB5 := Aside0.mk hb5); (have HK5 := Aside0.mk ((hb5.block gb HGS.out).trans HKA.out)); (have z5 := free_of_blk HK5.out 1); (have y5 : w5.cell? ⟨gb, 1, none⟩ = some (.slice V os.length c) := (cells_of_blk HK5.out 1).trans rfl); clear ho5 hb5 hg5 hat5 y1 x0 x1 x2)
                  go_roundg k4
                  case measure => omega
                  case rel => exact ⟨i + 1, by rw [HI4.out], by omega, ⟨V5, c5, by
                    rw [HOUT.out, HE.out]
                    simp only [if_true]
                    rw [show (os ++ [m]).length = os.length + 1 by simp]
                    refine ⟨(by have h := hb_set HK5.out 1 (Value.slice V5 (os.length + 1) c5); exact h), ?_, ?_⟩
                    · exact Kd.R_mono (Kd.R_step (Kd.R_bound HO5.out) (fun k hk _ => Below.heap_setCell _ _ _ _ (by have := hk.2.1; have := HGS.out; show k ≠ gb; omega))) (fun _ _ => trivial)
                    · exact (HCA.out.trans (Chg.of_below (S := fun k => w9.heap.size ≤ k) HB5.out (fun k _ h => h)) (fun k h1 h2 => absurd h1 (Nat.not_lt.2 h2))).trans (Chg.set (S := fun k => k = gb) w5 ⟨gb, 1, none⟩ _ rfl) (fun k h1 h2 => h2)⟩⟩
              | succ k5 =>
                have c0 : decide ((j : Int) < (seg.length : Int)) = true := decide_eq_true (by omega)
                have c0' : decide (j < seg.length) = true := decide_eq_true (by omega)
                have hjl : j < seg.length := by omega
                have hBw : Below w.heap.size w wr := HBA.out.trans (hM.out.2.to_below (fun k _ e => by have := HGE.out; have := HGS.out; have := HL11.out; omega) HBA.out.size)
                obtain ⟨y, hy⟩ : ∃ y, rd_T58 seg (j : Int) = y := ⟨_, rfl⟩
                have HMS := Aside0.mk (show mAt seg x (j + 1) = refStep x (mAt seg x j) y by rw [mAt_succ seg x j hjl, hy])
                obtain ⟨ads, rfl, x0, x1, x2⟩ := at_T58 (Kd.C_below HCS.out hBw) (j : Int) (by omega) (by omega)
                rw [hy, Int.toNat_natCast] at x0 x1 x2
                have r0 := eq_true (show (0 : Int) ≤ (j : Int) by omega)
                have r1 := eq_true (show (j : Int) < (seg.length : Int) by omega)
                have r2 := eq_true hjl
                have HJ := Aside0.mk (show wrap64 ((j : Int) + 1) = ((j + 1 : Nat) : Int) by have := HL.out; have := HSLEN.out; have := HEL.out; unfold wrap64; omega)
                clear hjl hy hBw
                go_upto_region 15 with (fail)
                obtain ⟨g13, hg13⟩ : ∃ g13, wr.heap.size = g13 := ⟨_, rfl⟩
                obtain ⟨W13, hW13⟩ : ∃ W13, wr.alloc (.cells #[.int .i64 y.f0, .string y.f1, .int .i64 y.f2] 58) = W13 := ⟨_, rfl⟩
                have hb13 : Below g13 wr W13 := by rw [← hW13, ← hg13]; exact below_alloc (Below.refl _ _) _
                have hk13 : W13.heap[g13]? = some (.cells #[.int .i64 y.f0, .string y.f1, .int .i64 y.f2] 58 (0, 0)) := by rw [← hW13, ← hg13]; exact hb_new _ _
                have hl13 : g11 < g13 := by rw [← hg13]; exact lt_of_blk hM.out.1
                have hc13 : Chg (fun k => k = g11) W11 W13 := hM.out.2.trans (Chg.of_below (S := fun k => g13 ≤ k) hb13 (fun k _ h => h)) (fun k h1 h2 => absurd h1 (by have := hM.out.2.size; omega))
                have hm13 := (hb13.block g11 hl13).trans hM.out.1
                rw [hW13, hg13]
                have HK13 := Aside0.mk hk13
                have HL13 := Aside0.mk hl13
                have HC13 := Aside0.mk hc13
                have HM13 := Aside0.mk hm13
                clear hg13 hW13 hb13 hk13 hl13 hc13 hm13 hM x0 x1 x2 r0 r1 r2 c0 c0'
                obtain ⟨m, hm⟩ : ∃ m, mAt seg x j = m := ⟨_, rfl⟩
                rw [hm] at HMS HM13
                clear hm
                have x1 : W13.cell? ⟨g13, 1, none⟩ = some (.string y.f1) := (cells_of_blk HK13.out 1).trans rfl
                by_cases hp : y.f1 = x
                · have e2 : (y.f1.toList == x.toList) = true := by rw [hp]; simp
                  have HST := Aside0.mk (show mAt seg x (j + 1) = ⟨y.f0, x, mergeR m.f2 y.f2⟩ by rw [HMS.out]; unfold refStep; rw [if_pos hp])
                  clear hp
                  go_upto_region 16 with (fail)
                  clear x1
                  have HS := Aside0.mk (show ∀ X : World, X.heap[g13]? = some (.cells #[.int .i64 y.f0, .string y.f1, .int .i64 y.f2] 58 (0, 0)) → (X.cell? ⟨g13, 0, none⟩ = some (.int .i64 y.f0) ∧ X.cell? ⟨g13, 2, none⟩ = some (.int .i64 y.f2)) from fun X hX => ⟨(cells_of_blk hX 0).trans rfl, (cells_of_blk hX 2).trans rfl⟩)
                  have HMD := Aside0.mk (show W13.drew.heap[g11]? = some (.cells #[.int .i64 m.f0, .string x, .int .i64 m.f2] 58 (0, 0)) from HM13.out)
                  have HKD := Aside0.mk (show W13.drew.heap[g13]? = some (.cells #[.int .i64 y.f0, .string y.f1, .int .i64 y.f2] 58 (0, 0)) from HK13.out)
                  refine start_ (n := 11) (S := fun w' => w'.cell? ⟨g13, 0, none⟩ = some (.int .i64 y.f0) ∧ w'.cell? ⟨g13, 2, none⟩ = some (.int .i64 y.f2)) (ds := ([] : List Nat)) #[false, false, false, false, false, false, false, false, false, false, false] (by kernel_rfl) rfl rfl (HS.out _ HKD.out) (fun hHeld => ?_)
                  refine pure_ (i := 0) (N := some 76) (v := ?_) (a' := ?_) #[true, false, false, false, false, false, false, false, false, false, false] rfl rfl (by kernel_rfl) (fun _ _ _ h => h) (Or.inl ⟨by rfl, ?_⟩) ?_ ?_
                  rotate_left
                  · intro w'
                    go_simp
                    with_reducible rfl
                  rotate_left
                  · simp only [Act.put, List.setIfInBounds_toArray, List.set_cons_zero, List.set_cons_succ, i64_w, i32_w]
                    rfl
                  refine pure_ (i := 2) (N := some 78) (v := ?_) (a' := ?_) #[true, false, true, false, false, false, false, false, false, false, false] rfl rfl (by kernel_rfl) (fun _ _ _ h => h) (Or.inl ⟨by rfl, ?_⟩) ?_ ?_
                  rotate_left
                  · intro w'
                    go_simp
                    with_reducible rfl
                  rotate_left
                  · simp only [Act.put, List.setIfInBounds_toArray, List.set_cons_zero, List.set_cons_succ, i64_w, i32_w]
                    rfl
                  refine pure_ (i := 5) (N := some 81) (v := ?_) (a' := ?_) #[true, false, true, false, false, true, false, false, false, false, false] rfl rfl (by kernel_rfl) (fun _ _ _ h => h) (Or.inl ⟨by rfl, ?_⟩) ?_ ?_
                  rotate_left
                  · intro w'
                    go_simp
                    with_reducible rfl
                  rotate_left
                  · simp only [Act.put, List.setIfInBounds_toArray, List.set_cons_zero, List.set_cons_succ, i64_w, i32_w]
                    rfl
                  refine take_ (i := 3) (N := some 79) (v := ?_) (a' := ?_) #[true, false, true, true, false, true, false, false, false, false, false] rfl rfl (by kernel_rfl) (fun _ _ _ h => h) (Or.inl ⟨by rfl, ?_⟩) hHeld ?_ ?_
                  rotate_left
                  · rintro w' ⟨s0_, s1_⟩
                    go_simp
                    with_reducible rfl
                  rotate_left
                  · simp only [Act.put, List.setIfInBounds_toArray, List.set_cons_zero, List.set_cons_succ, i64_w, i32_w]
                    rfl
                  refine take_ (i := 6) (N := some 82) (v := ?_) (a' := ?_) #[true, false, true, true, false, true, true, false, false, false, false] rfl rfl (by kernel_rfl) (fun _ _ _ h => h) (Or.inl ⟨by rfl, ?_⟩) hHeld ?_ ?_
                  rotate_left
                  · rintro w' ⟨s0_, s1_⟩
                    go_simp
                    with_reducible rfl
                  rotate_left
                  · simp only [Act.put, List.setIfInBounds_toArray, List.set_cons_zero, List.set_cons_succ, i64_w, i32_w]
                    rfl
                  refine one_ (i := 1) (N := some 77) #[true, true, true, true, false, true, true, false, false, false, false] rfl rfl (by kernel_rfl) (by decide) (fun K hK => ?_)
                  have s0 : W13.drew.cell? ⟨g11, 2, none⟩ = some (.int .i64 m.f2) := (cells_of_blk HMD.out 2).trans rfl
                  refine value_ (v := .int .i64 m.f2) (w1 := W13.drew) (by rfl) rfl ?_ ?_
                  · go_simp
                  clear s0
                  refine hK.out _ _ (HS.out _ HKD.out) (fun hHeld => ?_)
                  clear hK K
                  refine norm_ (a' := ?_) ?_ ?_
                  rotate_left
                  · show Act.put _ (some 77) _ = _
                    simp only [Act.put, List.setIfInBounds_toArray, List.set_cons_zero, List.set_cons_succ, i64_w, i32_w]
                    rfl
                  refine one_ (i := 4) (N := some 80) #[true, true, true, true, true, true, true, false, false, false, false] rfl rfl (by kernel_rfl) (by decide) (fun K hK => ?_)
                  refine goes_ Try.func22 (by kernel_rfl) rfl #[.int .i64 m.f2, .int .i64 y.f2] (by rfl) rfl rfl (by (try simp only [List.map_toArray, List.map_cons, List.map_nil]); first | done | rfl) ?_
                  refine (refMerge_calls m.f2 y.f2 _).mono ?_
                  rintro e4 w4 ⟨rfl, hb4⟩
                  refine ⟨_, rfl, ?_⟩
                  have HM4 := Aside0.mk ((hb4.block _ (lt_of_blk HMD.out)).trans HMD.out)
                  have HK4 := Aside0.mk ((hb4.block _ (lt_of_blk HKD.out)).trans HKD.out)
                  have HB4 := Aside0.mk (show Below W13.heap.size W13 w4 from (below_drew1 (Below.refl W13.heap.size W13)).trans hb4)
                  clear hb4
                  refine hK.out _ _ (HS.out _ HK4.out) (fun hHeld => ?_)
                  clear hK K
                  refine norm_ (a' := ?_) ?_ ?_
                  rotate_left
                  · show Act.put _ (some 80) _ = _
                    simp only [Act.put, List.setIfInBounds_toArray, List.set_cons_zero, List.set_cons_succ, i64_w, i32_w]
                    rfl
                  refine pure_ (i := 7) (N := some 83) (v := ?_) (a' := ?_) #[true, true, true, true, true, true, true, true, false, false, false] rfl rfl (by kernel_rfl) (fun _ _ _ h => h) (Or.inl ⟨by rfl, ?_⟩) ?_ ?_
                  rotate_left
                  · intro w'
                    go_simp
                    with_reducible rfl
                  rotate_left
                  · simp only [Act.put, List.setIfInBounds_toArray, List.set_cons_zero, List.set_cons_succ, i64_w, i32_w]
                    rfl
                  refine one_ (i := 8) (N := none) #[true, true, true, true, true, true, true, true, true, false, false] rfl rfl (by kernel_rfl) (by decide) (fun K hK => ?_)
                  have s0 : w4.cell? ⟨g11, 2, none⟩ = some (.int .i64 m.f2) := (cells_of_blk HM4.out 2).trans rfl
                  have f0 := free_of_blk HM4.out 2
                  refine skip_ (w1 := w4.setCell ⟨g11, 2, none⟩ (.int .i64 (mergeR m.f2 y.f2))) (by rfl) rfl ?_ ?_
                  · go_simp
                  clear s0 f0
                  have HM5 := Aside0.mk (show (w4.setCell ⟨g11, 2, none⟩ (.int .i64 (mergeR m.f2 y.f2))).heap[g11]? = some (.cells #[.int .i64 m.f0, .string x, .int .i64 (mergeR m.f2 y.f2)] 58 (0, 0)) from hb_set HM4.out 2 _)
                  have HK5 := Aside0.mk (show (w4.setCell ⟨g11, 2, none⟩ (.int .i64 (mergeR m.f2 y.f2))).heap[g13]? = some (.cells #[.int .i64 y.f0, .string y.f1, .int .i64 y.f2] 58 (0, 0)) from hb_far HK4.out (by have := HL13.out; show g13 ≠ g11; omega) _)
                  refine hK.out _ _ (HS.out _ HK5.out) (fun hHeld => ?_)
                  clear hK K
                  refine pure_ (i := 9) (N := some 84) (v := ?_) (a' := ?_) #[true, true, true, true, true, true, true, true, true, true, false] rfl rfl (by kernel_rfl) (fun _ _ _ h => h) (Or.inl ⟨by rfl, ?_⟩) ?_ ?_
                  rotate_left
                  · intro w'
                    go_simp
                    with_reducible rfl
                  rotate_left
                  · simp only [Act.put, List.setIfInBounds_toArray, List.set_cons_zero, List.set_cons_succ, i64_w, i32_w]
                    rfl
                  refine one_ (i := 10) (N := none) #[true, true, true, true, true, true, true, true, true, true, true] rfl rfl (by kernel_rfl) (by decide) (fun K hK => ?_)
                  have s0 := (cells_of_blk HM5.out 0)
                  have f0 := free_of_blk HM5.out 0
                  refine skip_ (w1 := (w4.setCell ⟨g11, 2, none⟩ (.int .i64 (mergeR m.f2 y.f2))).setCell ⟨g11, 0, none⟩ (.int .i64 y.f0)) (by rfl) rfl ?_ ?_
                  · go_simp
                  clear s0 f0
                  have HM6 := Aside0.mk (show ((w4.setCell ⟨g11, 2, none⟩ (.int .i64 (mergeR m.f2 y.f2))).setCell ⟨g11, 0, none⟩ (.int .i64 y.f0)).heap[g11]? = some (.cells #[.int .i64 y.f0, .string x, .int .i64 (mergeR m.f2 y.f2)] 58 (0, 0)) from hb_set HM5.out 0 _)
                  refine hK.out _ _ (HS.out _ (hb_far HK5.out (by have := HL13.out; show g13 ≠ g11; omega) _)) (fun hHeld => ?_)
                  clear hK K
                  refine done_ (by kernel_rfl) ?_
                  clear hHeld
                  have HC6 := Aside0.mk (show Chg (fun k => k = g11) W11 ((w4.setCell ⟨g11, 2, none⟩ (.int .i64 (mergeR m.f2 y.f2))).setCell ⟨g11, 0, none⟩ (.int .i64 y.f0)) from
                    ((HC13.out.trans (Chg.of_new (S := fun k => k = g11) HB4.out) (fun _ _ e => e)).trans (Chg.set (S := fun k => k = g11) w4 ⟨g11, 2, none⟩ _ rfl) (fun _ _ e => e)).trans (Chg.set (S := fun k => k = g11) _ ⟨g11, 0, none⟩ _ rfl) (fun _ _ e => e))
                  go_wp2
                  go_roundg k5
                  case measure => omega
                  case rel => exact ⟨j + 1, by rw [HJ.out], by omega, ⟨by rw [HST.out]; exact HM6.out, HC6.out⟩⟩
                · have e2 : (y.f1.toList == x.toList) = false := by
                    rw [beq_eq_false_iff_ne]
                    exact fun h => hp ((Lib.bytes_beq_iff y.f1 x).1 (beq_iff_eq.2 h))
                  have HST := Aside0.mk (show mAt seg x (j + 1) = m by rw [HMS.out]; unfold refStep; rw [if_neg hp])
                  clear hp
                  go_wp2
                  go_roundg k5
                  case measure => omega
                  case rel => exact ⟨j + 1, by rw [HJ.out], by omega, ⟨by rw [HST.out]; exact HM13.out, HC13.out⟩⟩
end
def glossatorref3_Batches.f (l0 : List S58) (a1 : Int) : Option (List S60) := if l0.length < 100000 then some (refAll a1 l0) else none
theorem glossatorref3_Batches.calls (A0 : Option Addr) (c0 : Nat) (l0 : List (S58)) (a1 : Int) (r : List S60) (w : World) (hr0 : Kd.C k58 w A0 l0.length l0) (hc0 : l0.length ≤ c0) (h : glossatorref3_Batches.f l0 a1 = some r) :
    Calls Try.prog 20 #[.slice A0 l0.length c0, .int .i64 a1] w fun e w' => ∃ v0_ : Value, e = .returned (v0_) ∧ Kd.S k60 60 w' w.heap.size (fun _ => True) v0_ r ∧ Below w.heap.size w w' := by
  unfold glossatorref3_Batches.f at h
  split at h
  case isFalse => cases h
  next hl =>
  obtain rfl := Option.some.inj h
  exact refBatches_calls A0 c0 l0 a1 w hr0 hc0 hl

/-! ### glossatorref3_Equal_string: function 23 -/
def glossatorref3_Equal_string.l0 : Nat → List ByteArray → List ByteArray → Int → Int → Option (Bool)
  | 0, _, _, _, _ => none
  | k + 1, x1, x12, x13, x14 => if x14 < x13 then (if 0 ≤ x14 then (if x14 < (x12.length : Int) then (if x14 < (x1.length : Int) then (if (rdOf ByteArray.empty x12 x14).toList = (rdOf ByteArray.empty x1 x14).toList then (glossatorref3_Equal_string.l0 k x1 x12 x13 (wrap64 (x14 + 1))) else (some false)) else (none)) else (none)) else (none)) else (some true)
def glossatorref3_Equal_string.f (k : Nat) (l0 : List ByteArray) (l1 : List ByteArray) : Option (Bool) := if (l0.length : Int) = (l1.length : Int) then (glossatorref3_Equal_string.l0 k l1 l0 (l0.length : Int) 0) else (some false)
theorem glossatorref3_Equal_string.mono_l : ∀ k, (∀ y0 y1 y2 y3, LeO (glossatorref3_Equal_string.l0 k y0 y1 y2 y3) (glossatorref3_Equal_string.l0 (k + 1) y0 y1 y2 y3))
  | 0 => fun _ _ _ _ r h => by simp [glossatorref3_Equal_string.l0] at h
  | k + 1 => by
    have ih0 := glossatorref3_Equal_string.mono_l k
    · intro y0 y1 y2 y3
      unfold glossatorref3_Equal_string.l0
      repeat' first
      | (with_reducible exact ih0 _ _ _ _)
      | (with_reducible exact LeO.refl _)
      | (with_reducible exact LeO.none _)
      | (with_reducible refine LeO.ite ?_ ?_)
      | (with_reducible refine LeO.bind ?_ (fun _ => ?_))
      | exact ih0 _ _ _ _
      | exact LeO.none _
      | refine LeO.ite ?_ ?_
      | refine LeO.bind ?_ (fun _ => ?_)
theorem glossatorref3_Equal_string.mono : ∀ a0 a1 k, LeO (glossatorref3_Equal_string.f k a0 a1) (glossatorref3_Equal_string.f (k + 1) a0 a1) := by
  intro a0 a1 k
  have ih0 := glossatorref3_Equal_string.mono_l k
  unfold glossatorref3_Equal_string.f
  repeat' first
      | (with_reducible exact ih0 _ _ _ _)
      | (with_reducible exact LeO.refl _)
      | (with_reducible exact LeO.none _)
      | (with_reducible refine LeO.ite ?_ ?_)
      | (with_reducible refine LeO.bind ?_ (fun _ => ?_))
      | exact ih0 _ _ _ _
      | exact LeO.none _
      | refine LeO.ite ?_ ?_
      | refine LeO.bind ?_ (fun _ => ?_)
set_option maxHeartbeats 8000000 in
set_option maxRecDepth 100000 in
theorem glossatorref3_Equal_string.calls (k : Nat) (A0 : Option Addr) (c0 : Nat) (l0 : List ByteArray) (A1 : Option Addr) (c1 : Nat) (l1 : List ByteArray) (r : Bool) (w : World) (hr0 : Kd.C Kd.string w A0 l0.length l0) (hc0 : l0.length ≤ c0) (hr1 : Kd.C Kd.string w A1 l1.length l1) (hc1 : l1.length ≤ c1) (h : glossatorref3_Equal_string.f k l0 l1 = some r) :
    Calls Try.prog 23 #[.slice A0 l0.length c0, .slice A1 l1.length c1] w fun e w' => e = .returned (.bool r) ∧ Drawn0 w w' := by
  have HR0 := Aside0.mk hr0
  have HC0 := Aside0.mk hc0
  clear hr0 hc0
  have HR1 := Aside0.mk hr1
  have HC1 := Aside0.mk hc1
  clear hr1 hc1
  have H : (if (l0.length : Int) = (l1.length : Int) then (glossatorref3_Equal_string.l0 k l1 l0 (l0.length : Int) 0) else (some false)) = some r := h
  clear h
  by_cases c3 : (l0.length : Int) = (l1.length : Int)
  · rw [if_pos c3] at H
    have c3b0 : ((l0.length : Int) == (l1.length : Int)) = true := beq_iff_eq.mpr c3
    have c3b1 : ((l0.length : Int) != (l1.length : Int)) = false := bne_eq_false_iff_eq.mpr c3
    have c3b2 : (l0.length == l1.length) = true := by first | simpa using c3 | (simp at c3 ⊢; omega)
    clear c3
    have H' := Aside0.mk H
    clear H
    go_enter Try.func23, Try.ntmps23
    go_wp2
    go_loopg [14] k (fun kq v14 w' => ∃ (x14_1 : Int), v14 = .int .i64 x14_1 ∧ Aside0 (glossatorref3_Equal_string.l0 kq l1 l0 (l0.length : Int) x14_1 = some r) ∧ Aside0 (kq ≤ k) ∧ Drawn0 w w')
    case atStart => exact ⟨(0), (by first | rfl | (simp; done) | (simp [*]; done) | (simp [isEmpty_bne]; done)), H', ⟨Nat.le_refl _⟩, by repeat (first | exact Drawn0.refl _ | apply Drawn0.step)⟩
    case round =>
      clear H'
      try clear c1
      try clear c2
      try clear p2
      try clear c3
      try clear c3b0
      try clear c3b1
      try clear c3b2
      obtain ⟨x14_1, rfl, HA, HK1, ⟨m1, rfl⟩⟩ := hrel
      cases gk with
      | zero => exact absurd HA.out (by simp [glossatorref3_Equal_string.l0])
      | succ k1 =>
        have H := HA.out
        clear HA
        simp only [glossatorref3_Equal_string.l0] at H
        by_cases c4 : x14_1 < (l0.length : Int)
        · rw [if_pos c4] at H
          have c4b0 : decide (x14_1 < (l0.length : Int)) = true := decide_eq_true c4
          clear c4
          by_cases c5 : 0 ≤ x14_1
          · rw [if_pos c5] at H
            have c5b0 : decide (0 ≤ x14_1) = true := decide_eq_true c5
            clear c5
            by_cases c6 : x14_1 < (l0.length : Int)
            · rw [if_pos c6] at H
              have c6b0 : decide (x14_1 < (l0.length : Int)) = true := decide_eq_true c6
              clear c6
              by_cases c7 : x14_1 < (l1.length : Int)
              · rw [if_pos c7] at H
                have c7b0 : decide (x14_1 < (l1.length : Int)) = true := decide_eq_true c7
                clear c7
                by_cases c8 : (rdOf ByteArray.empty l0 x14_1).toList = (rdOf ByteArray.empty l1 x14_1).toList
                · rw [if_pos c8] at H
                  have c8b0 : ((rdOf ByteArray.empty l0 x14_1).toList == (rdOf ByteArray.empty l1 x14_1).toList) = true := beq_iff_eq.mpr c8
                  have c8b1 : ((rdOf ByteArray.empty l0 x14_1).toList != (rdOf ByteArray.empty l1 x14_1).toList) = false := bne_eq_false_iff_eq.mpr c8
                  clear c8
                  have H' := Aside0.mk H
                  clear H
                  have p163 : 0 ≤ (x14_1 : Int) := of_decide_eq_true (by first | (with_reducible assumption) | assumption)
                  have q163 : x14_1 < (l0.length : Int) := of_decide_eq_true (by first | (with_reducible assumption) | assumption)
                  obtain ⟨ad163, e163, hx163_0⟩ := Kd.at_string HR0.out x14_1 p163 q163
                  cases e163
                  replace p163 := eq_true p163
                  replace q163 := eq_true q163
                  have p164 : 0 ≤ (x14_1 : Int) := of_decide_eq_true (by first | (with_reducible assumption) | assumption)
                  have q164 : x14_1 < (l1.length : Int) := of_decide_eq_true (by first | (with_reducible assumption) | assumption)
                  obtain ⟨ad164, e164, hx164_0⟩ := Kd.at_string HR1.out x14_1 p164 q164
                  cases e164
                  replace p164 := eq_true p164
                  replace q164 := eq_true q164
                  go_wp2
                  go_roundg k1
                  case measure => have := HK1.out; omega
                  case rel => exact ⟨(wrap64 (x14_1 + 1)), (by first | rfl | (simp; done) | (simp [*]; done) | (simp [isEmpty_bne]; done)), H', ⟨by have := HK1.out; omega⟩, by repeat (first | exact Drawn0.refl _ | apply Drawn0.step)⟩
                · rw [if_neg c8] at H
                  have c8b0 : ((rdOf ByteArray.empty l0 x14_1).toList == (rdOf ByteArray.empty l1 x14_1).toList) = false := beq_eq_false_iff_ne.mpr c8
                  have c8b1 : ((rdOf ByteArray.empty l0 x14_1).toList != (rdOf ByteArray.empty l1 x14_1).toList) = true := bne_iff_ne.mpr c8
                  obtain rfl := Option.some.inj H
                  have p163 : 0 ≤ (x14_1 : Int) := of_decide_eq_true (by first | (with_reducible assumption) | assumption)
                  have q163 : x14_1 < (l0.length : Int) := of_decide_eq_true (by first | (with_reducible assumption) | assumption)
                  obtain ⟨ad163, e163, hx163_0⟩ := Kd.at_string HR0.out x14_1 p163 q163
                  cases e163
                  replace p163 := eq_true p163
                  replace q163 := eq_true q163
                  have p164 : 0 ≤ (x14_1 : Int) := of_decide_eq_true (by first | (with_reducible assumption) | assumption)
                  have q164 : x14_1 < (l1.length : Int) := of_decide_eq_true (by first | (with_reducible assumption) | assumption)
                  obtain ⟨ad164, e164, hx164_0⟩ := Kd.at_string HR1.out x14_1 p164 q164
                  cases e164
                  replace p164 := eq_true p164
                  replace q164 := eq_true q164
                  go_wp2
                  go_ret
                  exact ⟨by first | rfl | (simp; done) | (simp [*]; done), by repeat (first | exact Drawn0.refl _ | apply Drawn0.step)⟩
              · rw [if_neg c7] at H
                exact absurd H (by simp)
            · rw [if_neg c6] at H
              exact absurd H (by simp)
          · rw [if_neg c5] at H
            exact absurd H (by simp)
        · rw [if_neg c4] at H
          have c4b0 : decide (x14_1 < (l0.length : Int)) = false := decide_eq_false c4
          clear c4
          obtain rfl := Option.some.inj H
          go_wp2
          go_ret
          exact ⟨by first | rfl | (simp; done) | (simp [*]; done), by repeat (first | exact Drawn0.refl _ | apply Drawn0.step)⟩
  · rw [if_neg c3] at H
    have c3b0 : ((l0.length : Int) == (l1.length : Int)) = false := beq_eq_false_iff_ne.mpr c3
    have c3b1 : ((l0.length : Int) != (l1.length : Int)) = true := bne_iff_ne.mpr c3
    have c3b2 : (l0.length == l1.length) = false := by first | simpa using c3 | (simp at c3 ⊢; omega)
    obtain rfl := Option.some.inj H
    go_enter Try.func23, Try.ntmps23
    go_wp2
    go_ret
    exact ⟨by first | rfl | (simp; done) | (simp [*]; done), by repeat (first | exact Drawn0.refl _ | apply Drawn0.step)⟩

-- NOT PRINTED: function 52 (maps_Keys_map_string_int_string_int)

end Go.Proofs.Ytcikmpcacakfbaa.QFilewatchBatches
