-- slim
-- Written by gen.py (this repo's wip/), which runs the kit's print.py with more arms. Lean checks it.
import Derived.Test.YtbfedkmiekbcmaaQQuerylangReadsx0
import Derived.Test.YtbfedkmiekbcmaaQQuerylangReadsx2
import Derived.Test.YtbfedkmiekbcmaaQQuerylangReadsx6
import Derived.Test.YtbfedkmiekbcmaaQQuerylangReadsx7
import Derived.Test.YtbfedkmiekbcmaaQQuerylangReadsx8
import Derived.Test.YtbfedkmiekbcmaaQQuerylangReadsx9
import Derived.Test.YtbfedkmiekbcmaaQQuerylangReadsx10
namespace Go.Proofs.Ytbfedkmiekbcmaa.QQuerylangReads
open Go.RowKit Go.Proofs.YtbfedkmiekbcmaaW.PrintWords Go.Proofs.YtbfedkmiekbcmaaW.PrintLast Go.Proofs.YtbfedkmiekbcmaaW.PrintMore
attribute [local go_sem] max2_int min2_int max_two min_two max_three min_three max_four min_four   -- for this text's walks alone
set_option linter.unusedVariables false
set_option linter.unusedSimpArgs false

section
open Go.Proofs.Ytbfedkmiekbcmaa.Hand
def refG (kf : Nat) (ins vs : List Int) (keys : List S44) (k1 k2 : Int) : Option (Int × Bool × List S44) :=
 (api_QKey_127.f kf keys k1 k2 0).bind fun c => (addKey c keys ⟨k1, k2, 0⟩).bind fun keys' => (valG ins vs () k1 k2).map (fun r => (r.1, r.2.1, keys'))
/-- The keys' variable, the first behind what stood. -/
def RfI (w0 : World) (keys : List S44) (S : Nat → Prop) (W : World) : Prop :=
 ∃ v, (∀ k, S k ↔ k = w0.heap.size ∨ v.ownBlock = some k) ∧ W.heap[w0.heap.size]? = some (.cells #[v] 35 (0, 0)) ∧ Kd.R k44 44 W (w0.heap.size + 1) (fun k => some k = v.ownBlock) v keys ∧ Below w0.heap.size w0 W
theorem rf_keep {w0 : World} {keys S W W'} (h : RfI w0 keys S W) (hc : Chg (fun k => ¬ S k ∧ w0.heap.size + 1 ≤ k) W W') : RfI w0 keys S W' := by
 obtain ⟨v, h1, h2, h3, h4⟩ := h
 refine ⟨v, h1, hc.at h2 (fun e => by omega), Kd.R_step h3 (fun k hk hlt => hc.block k hlt (fun e => e.1 ((h1 k).2 (.inr hk.symm)))), h4.trans (hc.to_below (fun k _ e => by omega) h4.size)⟩
set_option maxRecDepth 100000 in
set_option maxHeartbeats 4000000 in
theorem ref1_calls (kf ib vb : Nat) (AI : Option Addr) (ci : Nat) (ins : List Int) (AV : Option Addr) (cv : Nat) (vs : List Int) (w0 : World) (h3 : w0.heap[ib]? = some (.cells #[.slice AI ins.length ci] 22 (0, 0))) (h5 : w0.heap[vb]? = some (.cells #[.slice AV vs.length cv] 22 (0, 0)))
  (hi : Kd.C (Kd.int .i64) w0 AI ins.length ins) (hv : Kd.C (Kd.int .i64) w0 AV vs.length vs) {k1 k2 n : Int} {b : Bool} {keys keys' : List S44} {S : Nat → Prop} {W : World} (h : refG kf ins vs keys k1 k2 = some (n, b, keys')) (hI : RfI w0 keys S W) :
  Calls Try.prog 126 #[.int .i64 k1, .int .i64 k2, .pointer (some ⟨w0.heap.size, 0, none⟩), .pointer (some ⟨ib, 0, none⟩), .pointer (some ⟨vb, 0, none⟩)] W fun e w' => e = .returned (.tuple #[.int .i64 n, .bool b]) ∧ ∃ S', RfI w0 keys' S' w' ∧ Chg S W w' ∧ ∀ k, S' k → S k ∨ W.heap.size ≤ k := by
 unfold refG at h
 obtain ⟨c, hc, h⟩ := Option.bind_eq_some_iff.1 h
 obtain ⟨ks, hks, h⟩ := Option.bind_eq_some_iff.1 h
 obtain ⟨⟨m, b', _⟩, hx, he⟩ := Option.map_eq_some_iff.1 h
 injection he with e1 he
 injection he with e2 e3
 subst e1 e2 e3
 obtain ⟨v, hS, hkb, hv0, hB⟩ := hI
 obtain ⟨V, cv0, hvs⟩ := Kd.R_slice hv0
 subst hvs
 obtain ⟨_, hvc, hvr⟩ := Kd.R_reads' hv0
 have hbl : Below W.heap.size W (W.alloc (.cells #[.int .i64 k1, .int .i64 k2, .int .i64 0] 44)) := below_alloc (Below.refl _ _) _
 have HBLK := Aside0.mk (hb_new W (.cells #[.int .i64 k1, .int .i64 k2, .int .i64 0] 44))
 have hszk := lt_of_blk hkb
 have c1 : (W.alloc (.cells #[.int .i64 k1, .int .i64 k2, .int .i64 0] 44)).cell? ⟨w0.heap.size, 0, none⟩ = some (.slice V keys.length cv0) := cell_of_blk (hb_alloc hkb)
 have HC := Aside0.mk hc
 have HS := Aside0.mk hS
 have HKB := Aside0.mk hkb
 have HV := Aside0.mk hv0
 have HVC := Aside0.mk hvc
 have HVR := Aside0.mk hvr
 have HBL := Aside0.mk hbl
 have HB := Aside0.mk hB
 have X3 := Aside0.mk (cell_of_blk h3)
 have X5 := Aside0.mk (cell_of_blk h5)
 have HI := Aside0.mk hi
 have HVS := Aside0.mk hv
 clear hc hS hkb hv0 hvc hvr hbl hB h h3 h5 hi hv
 have fin : ∀ (Wc : World) (V2 : Option Addr) (c2 : Nat), Wc.heap[w0.heap.size]? = some (.cells #[.slice V2 ks.length c2] 35 (0, 0)) → Kd.R k44 44 Wc (w0.heap.size + 1) (fun k => some k = (Value.slice V2 ks.length c2).ownBlock) (.slice V2 ks.length c2) ks → Chg (fun k => k = w0.heap.size ∨ (Value.slice V keys.length cv0).ownBlock = some k) W Wc →
   ((Value.slice V2 ks.length c2).ownBlock = (Value.slice V keys.length cv0).ownBlock ∨ ∃ b, (Value.slice V2 ks.length c2).ownBlock = some b ∧ W.heap.size ≤ b) →
   Below w0.heap.size w0 Wc ∧ ∀ w3, Drawn0 Wc w3 → ∃ S', RfI w0 ks S' w3 ∧ Chg S W w3 ∧ ∀ k, S' k → S k ∨ W.heap.size ≤ k := by
  intro Wc V2 c2 g1 g2 g3 g4
  have hrow : ∀ k, (Value.slice V keys.length cv0).ownBlock = some k → w0.heap.size + 1 ≤ k := fun k e => Kd.R_base HV.out k e
  have hbe : Below w0.heap.size w0 Wc := HB.out.trans (g3.to_below (fun k _ e => by rcases e with e | e; omega; have := hrow _ e; omega) HB.out.size)
  refine ⟨hbe, fun w3 q1 => ?_⟩
  have q2 : Chg (fun _ => False) Wc w3 := Chg.drawn q1
  refine ⟨fun k => k = w0.heap.size ∨ (Value.slice V2 ks.length c2).ownBlock = some k, rf_keep ⟨.slice V2 ks.length c2, fun k => Iff.rfl, g1, g2, hbe⟩ (Chg.drawn q1), ?_, ?_⟩
  ·refine (g3.mono (T := S) (fun k _ e => (HS.out k).2 e)).trans (q2.mono (T := S) (fun k _ e => e.elim)) (fun _ _ h => h)
  ·intro k hk
   rcases hk with hk | hk
   ·exact .inl ((HS.out k).2 (.inl hk))
   ·rcases g4 with g4 | ⟨b, g4, g5⟩
    ·rw [g4] at hk; exact .inl ((HS.out k).2 (.inr hk))
    ·rw [g4] at hk; injection hk with hk; subst hk; exact .inr g5
 have HF := Aside0.mk fin
 clear fin
 unfold addKey at hks
 unfold valG at hx
 by_cases ck : k1 = 0
 ·rw [if_pos ck] at hx
  split at hx
  ·next hr =>
   obtain ⟨m, hm, he⟩ := Option.map_eq_some_iff.1 hx
   injection he with e1 he
   injection he with e2 _
   subst e1 e2
   obtain ⟨ad, hA, hcell⟩ := Kd.at_int HI.out k2 hr.1 hr.2
   have p1 := eq_true hr.1
   have p2 := eq_true hr.2
   have b1 : (k1 == 0) = true := by simp [ck]
   have HM := Aside0.mk hm
   have HXX := Aside0.mk hcell
   subst hA
   clear hx hm hr ck hcell
   cases c with
   | true =>
    rw [if_pos rfl] at hks
    injection hks with hks
    subst hks
    go_enter Try.func126, Try.ntmps126
    go_upto_region 4 with (go_at_call 127; refine (api_QKey_127.calls kf V cv0 keys k1 k2 0 true _ (Kd.C_below HVR.out HBL.out) HVC.out HC.out).mono ?_; rintro e w2 ⟨rfl, hb2⟩)
    have hbw : Below W.heap.size W w2 := HBL.out.trans (hb2.mono HBL.out.size)
    obtain ⟨f1, f2⟩ := HF.out w2 V cv0 ((hbw.block _ (lt_of_blk HKB.out)).trans HKB.out) (Kd.R_below HV.out hbw) (Chg.of_new hbw) (.inl rfl)
    have z1 := pw_cell_below f1 X3.out
    have z2 := pw_cell_below f1 HXX.out
    have F3 := Aside0.mk f2
    clear hbw hb2 f1 f2
    go_wp2_with (go_at_call 112; refine (glossatorref3_Mod.calls _ _ m _ HM.out).mono ?_; rintro e w4 ⟨rfl, ⟨nd, rfl⟩⟩)
    go_ret2
    exact ⟨rfl, F3.out _ ⟨_, rfl⟩⟩
   | false =>
    rw [if_neg (by simp)] at hks
    split at hks
    ·next hlim =>
     injection hks with hks
     subst hks
     have HLIM := Aside0.mk hlim
     clear hlim
     go_enter Try.func126, Try.ntmps126
     go_upto_region 3 with (go_at_call 127; refine (api_QKey_127.calls kf V cv0 keys k1 k2 0 false _ (Kd.C_below HVR.out HBL.out) HVC.out HC.out).mono ?_; rintro e w2 ⟨rfl, hb2⟩)
     have hbw : Below W.heap.size W w2 := HBL.out.trans (hb2.mono HBL.out.size)
     have hkey := (hb2.block _ (by simp)).trans HBLK.out
     have hkb2 := (hbw.block _ (lt_of_blk HKB.out)).trans HKB.out
     have x0 : w2.cell? ⟨W.heap.size, 0, none⟩ = some (.int .i64 k1) := (cells_of_blk hkey 0).trans rfl
     have x1 : w2.cell? ⟨W.heap.size, 1, none⟩ = some (.int .i64 k2) := (cells_of_blk hkey 1).trans rfl
     have x2 : w2.cell? ⟨W.heap.size, 2, none⟩ = some (.int .i64 0) := (cells_of_blk hkey 2).trans rfl
     have y0 := cell_of_blk hkb2
     have HV2 := Aside0.mk (Kd.R_mono (Kd.R_below HV.out hbw) (ok' := fun _ => True) (fun _ _ => trivial))
     have HBW := Aside0.mk hbw
     have HKB2 := Aside0.mk hkb2
     have HKEY := Aside0.mk hkey
     clear hbw hb2 hkb2 hkey
     go_upto_region 4 with (first | ((with_reducible refine gate_builtin (b := .append) (xs := #[.tmp 17, .tmp 19]) rfl ?_); at_builtin; refine Kd.R_append k44 (w0 := w2) (w0.heap.size + 1) rfl (.tmp 17) (.tmp 19) 35 44 (.agg #[.int .i64 0, .int .i64 0, .int .i64 0]) 24 rfl Try.underlying35 info_44 rfl (by decide) (by omega) (.slice V keys.length cv0) keys ⟨k1, k2, 0⟩ [.int .i64 k1, .int .i64 k2, .int .i64 0] (fun _ => True) (fun _ => False) rfl rfl (k44_mkM _ _ _ ⟨k1, k2, 0⟩) (fun _ h => h.elim) (fun _ _ => trivial) HV2.out (Below.refl _ _) (lt_of_blk HKB2.out) (by have := HLIM.out; omega) ?_; intro v5 w5 ho hb hg hat; (obtain ⟨V5, c5, hv5⟩ := Kd.R_slice ho); (have hv6 := hv5); (rw [List.length_append, List.length_singleton] at hv5); subst hv5; (have hkb5 := (hb.block _ (Nat.lt_succ_self w0.heap.size)).trans HKB2.out); (have s6 := cell_of_blk hkb5); (have f6 := free_of_blk hkb5 0); (have HO5 := Aside0.mk ho); (have HB5_ := Aside0.mk hb); (have HG5 := Aside0.mk hg); (have HAT := Aside0.mk hat); (have HKB5 := Aside0.mk hkb5); clear ho hb hg hat y0 hv6 hkb5))
     have hlen : keys.length + 1 = (keys ++ [(⟨k1, k2, 0⟩ : S44)]).length := by simp
     have f := HF.out (w5.setCell ⟨w0.heap.size, 0, none⟩ (.slice V5 (keys.length + 1) c5)) V5 c5 (by rw [← hlen]; exact hb_set HKB5.out 0 _)
      (by
       rw [← hlen]
       refine Kd.R_tight k44_E (Kd.R_mono (Kd.R_step (Kd.R_bound (by have := HO5.out; exact this)) (fun k hk _ => Below.heap_setCell _ _ _ _ (by have := hk.2.1; show k ≠ w0.heap.size; omega))) (fun _ _ => trivial) (ok' := fun _ => True)))
      (by
       refine ((Chg.of_new HBW.out : Chg _ W w2).trans (Chg.of_grown HG5.out (fun k e => .inr e)) (fun _ _ h => h)).trans (Chg.set _ _ _ (.inl rfl)) (fun _ _ h => h))
      (by
       rw [← hlen]
       rcases HAT.out with h | ⟨b, h, hb⟩
       ·exact .inl h
       ·exact .inr ⟨b, h, Nat.le_trans HBW.out.size hb⟩)
     obtain ⟨f1, f2⟩ := f
     have F3 := Aside0.mk f2
     have z1 := pw_cell_below f1 X3.out
     have z2 := pw_cell_below f1 HXX.out
     clear f1 f2 hlen x0 x1 x2 s6 f6
     generalize w5.setCell ⟨w0.heap.size, 0, none⟩ (.slice V5 (keys.length + 1) c5) = w6 at *
     go_wp2_with (go_at_call 112; refine (glossatorref3_Mod.calls _ _ m _ HM.out).mono ?_; rintro e w4 ⟨rfl, ⟨nd, rfl⟩⟩)
     go_ret2
     exact ⟨rfl, F3.out _ ⟨_, rfl⟩⟩
    ·cases hks
  ·cases hx
 ·rw [if_neg ck] at hx
  split at hx
  ·next hr =>
   injection hx with he
   injection he with e1 he
   injection he with e2 _
   subst e1 e2
   obtain ⟨ad, hA, hcell⟩ := Kd.at_int HVS.out k2 hr.1 hr.2
   have p1 := eq_true hr.1
   have p2 := eq_true hr.2
   have b1 : (k1 == 0) = false := by simp [ck]
   have HXX := Aside0.mk hcell
   subst hA
   clear hr ck hcell
   try clear hx
   cases c with
   | true =>
    rw [if_pos rfl] at hks
    injection hks with hks
    subst hks
    go_enter Try.func126, Try.ntmps126
    go_upto_region 4 with (go_at_call 127; refine (api_QKey_127.calls kf V cv0 keys k1 k2 0 true _ (Kd.C_below HVR.out HBL.out) HVC.out HC.out).mono ?_; rintro e w2 ⟨rfl, hb2⟩)
    have hbw : Below W.heap.size W w2 := HBL.out.trans (hb2.mono HBL.out.size)
    obtain ⟨f1, f2⟩ := HF.out w2 V cv0 ((hbw.block _ (lt_of_blk HKB.out)).trans HKB.out) (Kd.R_below HV.out hbw) (Chg.of_new hbw) (.inl rfl)
    have z1 := pw_cell_below f1 X5.out
    have z2 := pw_cell_below f1 HXX.out
    have F3 := Aside0.mk f2
    clear hbw hb2 f1 f2
    go_wp2
    go_ret2
    exact ⟨rfl, F3.out _ (Drawn0.refl _)⟩
   | false =>
    rw [if_neg (by simp)] at hks
    split at hks
    ·next hlim =>
     injection hks with hks
     subst hks
     have HLIM := Aside0.mk hlim
     clear hlim
     go_enter Try.func126, Try.ntmps126
     go_upto_region 3 with (go_at_call 127; refine (api_QKey_127.calls kf V cv0 keys k1 k2 0 false _ (Kd.C_below HVR.out HBL.out) HVC.out HC.out).mono ?_; rintro e w2 ⟨rfl, hb2⟩)
     have hbw : Below W.heap.size W w2 := HBL.out.trans (hb2.mono HBL.out.size)
     have hkey := (hb2.block _ (by simp)).trans HBLK.out
     have hkb2 := (hbw.block _ (lt_of_blk HKB.out)).trans HKB.out
     have x0 : w2.cell? ⟨W.heap.size, 0, none⟩ = some (.int .i64 k1) := (cells_of_blk hkey 0).trans rfl
     have x1 : w2.cell? ⟨W.heap.size, 1, none⟩ = some (.int .i64 k2) := (cells_of_blk hkey 1).trans rfl
     have x2 : w2.cell? ⟨W.heap.size, 2, none⟩ = some (.int .i64 0) := (cells_of_blk hkey 2).trans rfl
     have y0 := cell_of_blk hkb2
     have HV2 := Aside0.mk (Kd.R_mono (Kd.R_below HV.out hbw) (ok' := fun _ => True) (fun _ _ => trivial))
     have HBW := Aside0.mk hbw
     have HKB2 := Aside0.mk hkb2
     have HKEY := Aside0.mk hkey
     clear hbw hb2 hkb2 hkey
     go_upto_region 4 with (first | ((with_reducible refine gate_builtin (b := .append) (xs := #[.tmp 17, .tmp 19]) rfl ?_); at_builtin; refine Kd.R_append k44 (w0 := w2) (w0.heap.size + 1) rfl (.tmp 17) (.tmp 19) 35 44 (.agg #[.int .i64 0, .int .i64 0, .int .i64 0]) 24 rfl Try.underlying35 info_44 rfl (by decide) (by omega) (.slice V keys.length cv0) keys ⟨k1, k2, 0⟩ [.int .i64 k1, .int .i64 k2, .int .i64 0] (fun _ => True) (fun _ => False) rfl rfl (k44_mkM _ _ _ ⟨k1, k2, 0⟩) (fun _ h => h.elim) (fun _ _ => trivial) HV2.out (Below.refl _ _) (lt_of_blk HKB2.out) (by have := HLIM.out; omega) ?_; intro v5 w5 ho hb hg hat; (obtain ⟨V5, c5, hv5⟩ := Kd.R_slice ho); (have hv6 := hv5); (rw [List.length_append, List.length_singleton] at hv5); subst hv5; (have hkb5 := (hb.block _ (Nat.lt_succ_self w0.heap.size)).trans HKB2.out); (have s6 := cell_of_blk hkb5); (have f6 := free_of_blk hkb5 0); (have HO5 := Aside0.mk ho); (have HB5_ := Aside0.mk hb); (have HG5 := Aside0.mk hg); (have HAT := Aside0.mk hat); (have HKB5 := Aside0.mk hkb5); clear ho hb hg hat y0 hv6 hkb5))
     have hlen : keys.length + 1 = (keys ++ [(⟨k1, k2, 0⟩ : S44)]).length := by simp
     have f := HF.out (w5.setCell ⟨w0.heap.size, 0, none⟩ (.slice V5 (keys.length + 1) c5)) V5 c5 (by rw [← hlen]; exact hb_set HKB5.out 0 _)
      (by
       rw [← hlen]
       refine Kd.R_tight k44_E (Kd.R_mono (Kd.R_step (Kd.R_bound (by have := HO5.out; exact this)) (fun k hk _ => Below.heap_setCell _ _ _ _ (by have := hk.2.1; show k ≠ w0.heap.size; omega))) (fun _ _ => trivial) (ok' := fun _ => True)))
      (by
       refine ((Chg.of_new HBW.out : Chg _ W w2).trans (Chg.of_grown HG5.out (fun k e => .inr e)) (fun _ _ h => h)).trans (Chg.set _ _ _ (.inl rfl)) (fun _ _ h => h))
      (by
       rw [← hlen]
       rcases HAT.out with h | ⟨b, h, hb⟩
       ·exact .inl h
       ·exact .inr ⟨b, h, Nat.le_trans HBW.out.size hb⟩)
     obtain ⟨f1, f2⟩ := f
     have F3 := Aside0.mk f2
     have z1 := pw_cell_below f1 X5.out
     have z2 := pw_cell_below f1 HXX.out
     clear f1 f2 hlen x0 x1 x2 s6 f6
     generalize w5.setCell ⟨w0.heap.size, 0, none⟩ (.slice V5 (keys.length + 1) c5) = w6 at *
     go_wp2
     go_ret2
     exact ⟨rfl, F3.out _ (Drawn0.refl _)⟩
    ·cases hks
  ·cases hx
theorem ref_oracle (kf ib vb : Nat) (AI : Option Addr) (ci : Nat) (ins : List Int) (AV : Option Addr) (cv : Nat) (vs : List Int) (w0 : World) (h3 : w0.heap[ib]? = some (.cells #[.slice AI ins.length ci] 22 (0, 0))) (h5 : w0.heap[vb]? = some (.cells #[.slice AV vs.length cv] 22 (0, 0)))
  (hi : Kd.C (Kd.int .i64) w0 AI ins.length ins) (hv : Kd.C (Kd.int .i64) w0 AV vs.length vs) :
  OracleR (w0.heap.size + 1) 126 #[.pointer (some ⟨w0.heap.size, 0, none⟩), .pointer (some ⟨ib, 0, none⟩), .pointer (some ⟨vb, 0, none⟩)] (refG kf ins vs) (RfI w0) where
 lt := fun {s S W k} h hk => by
  obtain ⟨v, h1, h2, h3, _⟩ := h
  rcases (h1 k).1 hk with e | e
  ·subst e; exact lt_of_blk h2
  ·exact Kd.R_lt h3 _ e
 keep := fun h hc => rf_keep h hc
 enters := fun args w => enters_ Try.func126 (by kernel_rfl) rfl args w
 goes := fun {s S W k1 k2 n b s'} h hg => ref1_calls kf ib vb AI ci ins AV cv vs w0 h3 h5 hi hv hg h
/-- What the reference's Reads answers. -/
def glossatorref3_Reads.f (k : Nat) (a0 : Int) (qs : List (List S166)) (ins : List Int) (q : Int) : Option (List S44) :=
 (glossatorref3_Values.f a0 qs ins).bind fun vs => if 0 ≤ q then (if q < (qs.length : Int) then (execR (refG k ins vs) q (rdq qs q) zeros24 0 []).map (fun r => r.2.2) else none) else none
theorem refG_mono {kf : Nat} {ins vs : List Int} (s : List S44) (a b : Int) (r : Int × Bool × List S44) (h : refG kf ins vs s a b = some r) : refG (kf + 1) ins vs s a b = some r := by
 unfold refG at h ⊢
 obtain ⟨x, hx, h⟩ := Option.bind_eq_some_iff.1 h
 rw [api_QKey_127.mono _ _ _ _ _ _ hx, Option.bind_some]
 exact h
theorem stepR_mono {σ : Type} {G G' : σ → Int → Int → Option (Int × Bool × σ)} (hG : ∀ s a b r, G s a b = some r → G' s a b = some r) {own : Int} {op : S166} {zs : List Int} {size : Nat} {s : σ} {r : Option (List Int × Nat) × σ} (h : stepR G own op zs size s = some r) : stepR G' own op zs size s = some r := by
 unfold stepR at h ⊢
 obtain ⟨x, hx, h⟩ := Option.bind_eq_some_iff.1 h
 rw [hx, Option.bind_some]
 obtain ⟨y, hy, h⟩ := Option.bind_eq_some_iff.1 h
 split at hy
 ·next c => rw [if_pos c, hG _ _ _ _ hy, Option.bind_some]; exact h
 ·next c => rw [if_neg c, hy, Option.bind_some]; exact h
theorem execR_mono {σ : Type} {G G' : σ → Int → Int → Option (Int × Bool × σ)} (hG : ∀ s a b r, G s a b = some r → G' s a b = some r) {own : Int} : ∀ {ops : List S166} {zs : List Int} {size : Nat} {s : σ} {r : Int × Bool × σ}, execR G own ops zs size s = some r → execR G' own ops zs size s = some r
 | [], zs, size, s, r, h => h
 | op :: t, zs, size, s, r, h => by
  rw [execR] at h ⊢
  obtain ⟨⟨x, s'⟩, hx, h⟩ := Option.bind_eq_some_iff.1 h
  rw [stepR_mono hG hx, Option.bind_some]
  cases x with
  | none => exact h
  | some q => exact execR_mono hG h
theorem glossatorref3_Reads.mono : ∀ a0 a1 a2 a3 k, LeO (glossatorref3_Reads.f k a0 a1 a2 a3) (glossatorref3_Reads.f (k + 1) a0 a1 a2 a3) := by
 intro a0 a1 a2 a3 k
 unfold glossatorref3_Reads.f
 refine LeO.bind (LeO.refl _) (fun c => ?_)
 refine LeO.ite (LeO.ite ?_ (LeO.refl _)) (LeO.refl _)
 intro r h
 obtain ⟨x, hx, rfl⟩ := Option.map_eq_some_iff.1 h
 rw [execR_mono (fun s a b r hg => refG_mono s a b r hg) hx]
 rfl
set_option maxRecDepth 100000 in
set_option maxHeartbeats 4000000 in
theorem glossatorref3_Reads.calls (k : Nat) (a0_0 : Int) (A0_1 : Option Addr) (c0_1 : Nat) (l0_1 : List (List (S166))) (A1 : Option Addr) (c1 : Nat) (l1 : List Int) (a2 : Int) (r1 : List S44) (w : World) (hr0_1 : Kd.C (Kd.slice 166 k166) w A0_1 l0_1.length l0_1) (hc0_1 : l0_1.length ≤ c0_1) (hr1 : Kd.C (Kd.int .i64) w A1 l1.length l1) (hc1 : l1.length ≤ c1) (h : glossatorref3_Reads.f k a0_0 l0_1 l1 a2 = some r1) :
  Calls Try.prog 77 #[.agg #[.int .i64 a0_0, .slice A0_1 l0_1.length c0_1], .slice A1 l1.length c1, .int .i64 a2] w fun e w' => ∃ v0_ : Value, e = .returned (v0_) ∧ Kd.R k44 44 w' w.heap.size (fun _ => True) v0_ r1 ∧ Below w.heap.size w w' := by
 unfold glossatorref3_Reads.f at h
 obtain ⟨vs, hvs, h⟩ := Option.bind_eq_some_iff.1 h
 split at h
 ·next q0 =>
  split at h
  ·next q1 =>
   obtain ⟨⟨n, b, ks⟩, hn, he⟩ := Option.map_eq_some_iff.1 h
   subst he
   obtain ⟨ad, AO, co, hA, hx, hlo, hro⟩ := at_q hr0_1 a2 q0 q1
   obtain ⟨q, hqq⟩ : ∃ q, rdq l0_1 a2 = q := ⟨_, rfl⟩
   rw [hqq] at hx hlo hro hn
   have HQ := Aside0.mk hr0_1
   have HCQ := Aside0.mk hc0_1
   have HI := Aside0.mk hr1
   have HCI := Aside0.mk hc1
   have HN := Aside0.mk hn
   have HVS := Aside0.mk hvs
   have HRO := Aside0.mk hro
   have HLO := Aside0.mk hlo
   have HX := Aside0.mk hx
   have p1 := eq_true q0
   have p2 := eq_true q1
   have hlen := hr0_1.2.1
   clear hr0_1 hc0_1 hr1 hc1 hn hvs hro hlo hx hqq q0 q1 h
   subst hA
   go_enter Try.func77, Try.ntmps77
   go_upto_region 1 with (fail)
   have hb1 : Below w.heap.size w ((w.alloc (.cells #[.int .i64 a0_0, .slice (some ad) l0_1.length c0_1] 97)).alloc (.cells #[.slice A1 l1.length c1] 22)) := below_alloc (below_alloc (Below.refl _ _) _) _
   have hsz1 : ((w.alloc (.cells #[.int .i64 a0_0, .slice (some ad) l0_1.length c0_1] 97)).alloc (.cells #[.slice A1 l1.length c1] 22)).heap.size = w.heap.size + 2 := by rw [World.size_alloc, World.size_alloc]
   have hp1 : ((w.alloc (.cells #[.int .i64 a0_0, .slice (some ad) l0_1.length c0_1] 97)).alloc (.cells #[.slice A1 l1.length c1] 22)).heap[w.heap.size]? = _ := hb_alloc (hb_new w (.cells #[.int .i64 a0_0, .slice (some ad) l0_1.length c0_1] 97))
   have hi1 := hb_new (w.alloc (.cells #[.int .i64 a0_0, .slice (some ad) l0_1.length c0_1] 97)) (.cells #[.slice A1 l1.length c1] 22)
   rw [World.size_alloc] at hi1
   have y1 : ((w.alloc (.cells #[.int .i64 a0_0, .slice (some ad) l0_1.length c0_1] 97)).alloc (.cells #[.slice A1 l1.length c1] 22)).cell? ⟨w.heap.size, 1, none⟩ = some (.slice (some ad) l0_1.length c0_1) := (cells_of_blk hp1 1).trans rfl
   have y0 : ((w.alloc (.cells #[.int .i64 a0_0, .slice (some ad) l0_1.length c0_1] 97)).alloc (.cells #[.slice A1 l1.length c1] 22)).cell? ⟨w.heap.size, 0, none⟩ = some (.int .i64 a0_0) := (cells_of_blk hp1 0).trans rfl
   have y2 := cell_of_blk hi1
   have HB1 := Aside0.mk hb1
   have HSZ1 := Aside0.mk hsz1
   have HP1 := Aside0.mk hp1
   have HI1 := Aside0.mk hi1
   clear hb1 hsz1 hp1 hi1
   generalize (w.alloc (.cells #[.int .i64 a0_0, .slice (some ad) l0_1.length c0_1] 97)).alloc (.cells #[.slice A1 l1.length c1] 22) = W1 at *
   go_upto_region 2 with (go_at_call 61; refine (glossatorref3_Values.calls a0_0 (some ad) c0_1 l0_1 A1 c1 l1 vs _ (Kd.C_below HQ.out HB1.out) HCQ.out (Kd.C_below HI.out HB1.out) HCI.out HVS.out).mono ?_; rintro e w2 ⟨v0, rfl, hv0, hb2⟩; obtain ⟨AV, cv, hvs0⟩ := Kd.R_slice hv0; subst hvs0; (have HV0 := Aside0.mk hv0); (have HB2 := Aside0.mk hb2); clear hv0 hb2)
   go_upto_region 3 with (fail)
   obtain ⟨_, hvc, hvr⟩ := Kd.R_reads' HV0.out
   have hsz2 := HB2.out.size
   rw [HSZ1.out] at hsz2
   have hbv : Below w2.heap.size w2 (w2.alloc (.cells #[.slice AV vs.length cv] 22)) := below_alloc (Below.refl _ _) _
   have hbw : Below w.heap.size w (w2.alloc (.cells #[.slice AV vs.length cv] 22)) := HB1.out.trans ((HB2.out.trans (below_alloc (Below.refl _ _) _ |>.mono HB2.out.size)).mono HB1.out.size)
   have h3 : (w2.alloc (.cells #[.slice AV vs.length cv] 22)).heap[w.heap.size + 1]? = some (.cells #[.slice A1 l1.length c1] 22 (0, 0)) := hb_alloc ((HB2.out.block _ (by rw [HSZ1.out]; omega)).trans HI1.out)
   have h5 := hb_new w2 (.cells #[.slice AV vs.length cv] 22)
   have OR := ref_oracle k (w.heap.size + 1) w2.heap.size A1 c1 l1 AV cv vs (w2.alloc (.cells #[.slice AV vs.length cv] 22)) h3 h5 (Kd.C_below HI.out hbw) (Kd.C_below hvr hbv)
   have hbk : Below (w2.alloc (.cells #[.slice AV vs.length cv] 22)).heap.size (w2.alloc (.cells #[.slice AV vs.length cv] 22)) ((w2.alloc (.cells #[.slice AV vs.length cv] 22)).alloc (.cells #[.slice none 0 0] 35)) := below_alloc (Below.refl _ _) _
   have hRI : RfI (w2.alloc (.cells #[.slice AV vs.length cv] 22)) [] (fun j => j = (w2.alloc (.cells #[.slice AV vs.length cv] 22)).heap.size ∨ (Value.slice none 0 0).ownBlock = some j) ((w2.alloc (.cells #[.slice AV vs.length cv] 22)).alloc (.cells #[.slice none 0 0] 35)) :=
    ⟨.slice none 0 0, fun j => Iff.rfl, hb_new _ _, Kd.R_nil _ _ _ _ _, hbk⟩
   have hb2k : Below w.heap.size w ((w2.alloc (.cells #[.slice AV vs.length cv] 22)).alloc (.cells #[.slice none 0 0] 35)) := hbw.trans (hbk.mono hbw.size)
   have x1 : ((w2.alloc (.cells #[.slice AV vs.length cv] 22)).alloc (.cells #[.slice none 0 0] 35)).cell? ⟨w.heap.size, 1, none⟩ = some (.slice (some ad) l0_1.length c0_1) := (cells_of_blk (hb_alloc (hb_alloc ((HB2.out.block _ (by rw [HSZ1.out]; omega)).trans HP1.out))) 1).trans rfl
   have x2 := pw_cell_below hb2k HX.out
   have hszv : (w2.alloc (.cells #[.slice AV vs.length cv] 22)).heap.size = w2.heap.size + 1 := World.size_alloc _ _
   have hszk : ((w2.alloc (.cells #[.slice AV vs.length cv] 22)).alloc (.cells #[.slice none 0 0] 35)).heap.size = w2.heap.size + 2 := by rw [World.size_alloc, hszv]
   have HOR := Aside0.mk OR
   have HRI := Aside0.mk hRI
   have HBK := Aside0.mk hb2k
   have HSZV := Aside0.mk hszv
   have HSZK := Aside0.mk hszk
   have HSZ2 := Aside0.mk hsz2
   clear OR hRI hb2k hszv hszk hsz2 hbk h3 h5 hbw hbv hvc hvr HV0 HP1 HI1 y0 y1 y2 h
   rw [HSZV.out] at HOR HRI
   generalize (w2.alloc (.cells #[.slice AV vs.length cv] 22)).alloc (.cells #[.slice none 0 0] 35) = W2 at *
   generalize w2.alloc (.cells #[.slice AV vs.length cv] 22) = W0 at *
   go_upto_region 4 with (go_at_call 110; refine (exec_calls HOR.out AO co q a2 [] (n, b, ks) _ _ (fun W' hc => ?hops) HLO.out HRI.out ?hlt ?hB HN.out).mono ?_; (case hops => exact Kd.C_below HRO.out (HBK.out.trans (hc.to_below (fun j _ e => by have := HSZ2.out; rcases e with e | e; omega; cases e) HBK.out.size))); (case hlt => intro j e; rw [HSZK.out]; rcases e with e | e; omega; cases e); (case hB => rw [HSZK.out]; omega); rintro e w3 ⟨rfl, S3, hI3, hc3, hS3⟩; obtain ⟨v3, hS, hk3, hv3, _⟩ := hI3; (have hk3' := hk3); rw [HSZV.out] at hk3'; (have x3 := cell_of_blk hk3'); (have HV3 := Aside0.mk hv3); (have HC3 := Aside0.mk hc3); clear hS hk3 hk3' hv3 hc3 hS3)
   go_wp2
   go_ret
   have hz := HSZ2.out
   have hz1 := HSZV.out
   refine ⟨v3, rfl, Kd.R_mono (Kd.R_lower HV3.out (by omega)) (fun _ _ => trivial), ?_⟩
   refine HBK.out.trans (HC3.out.to_below (fun j _ e => ?_) HBK.out.size)
   rcases e with e | e
   ·omega
   ·cases e
  ·cases h
 ·cases h
end

/-! ### glossatorlaw3_QuerylangReads: function 14 -/
def glossatorlaw3_QuerylangReads.f (k : Nat) (a0_0 : Int) (l0_1 : List (List (S166))) (l1 : List Int) (a2 : Int) : Option (Bool) := (glossatorlaw3_queryExample.f k).bind fun t160 => (if t160 = true then ((querylang_Reads.f k a0_0 l0_1 l1 a2).bind fun bt161 => ((glossatorlaw3_evalError.f k a0_0 l0_1 l1 a2).bind fun t165 => (if t165 = 0 then ((glossatorlaw3_queryExample.f k).bind fun t166 => (if t166 = true then (if bt161.2 = 0 then ((glossatorref3_Reads.f k a0_0 l0_1 l1 a2).bind fun t167 => ((api_QKey_76.f k bt161.1 t167).bind fun t170 => (some t170))) else (some false)) else (some false))) else ((glossatorlaw3_queryExample.f k).bind fun t171 => (if t171 = true then (if bt161.2 = t165 then (some ((bt161.1.length : Int) == 0)) else (some false)) else (some false)))))) else (some false))
theorem glossatorlaw3_QuerylangReads.mono : ∀ a0 a1 a2 a3 k, LeO (glossatorlaw3_QuerylangReads.f k a0 a1 a2 a3) (glossatorlaw3_QuerylangReads.f (k + 1) a0 a1 a2 a3) := by
 intro a0 a1 a2 a3 k
 unfold glossatorlaw3_QuerylangReads.f
 repeat' first
   | (with_reducible exact api_QKey_76.mono _ _ _)
   | (with_reducible exact glossatorlaw3_evalError.mono _ _ _ _ _)
   | (with_reducible exact glossatorlaw3_queryExample.mono _)
   | (with_reducible exact glossatorref3_Reads.mono _ _ _ _ _)
   | (with_reducible exact querylang_Reads.mono _ _ _ _ _)
   | (with_reducible exact LeO.refl _)
   | (with_reducible exact LeO.none _)
   | (with_reducible refine LeO.ite ?_ ?_)
   | (with_reducible refine LeO.bind ?_ (fun _ => ?_))
   | exact api_QKey_76.mono _ _ _
   | exact glossatorlaw3_evalError.mono _ _ _ _ _
   | exact glossatorlaw3_queryExample.mono _
   | exact glossatorref3_Reads.mono _ _ _ _ _
   | exact querylang_Reads.mono _ _ _ _ _
   | exact LeO.none _
   | refine LeO.ite ?_ ?_
   | refine LeO.bind ?_ (fun _ => ?_)
set_option maxHeartbeats 8000000 in
set_option maxRecDepth 100000 in
theorem glossatorlaw3_QuerylangReads.calls (k : Nat) (a0_0 : Int) (A0_1 : Option Addr) (c0_1 : Nat) (l0_1 : List (List (S166))) (A1 : Option Addr) (c1 : Nat) (l1 : List Int) (a2 : Int) (r : Bool) (w : World) (hr0_1 : Kd.C (Kd.slice 166 k166) w A0_1 l0_1.length l0_1) (hc0_1 : l0_1.length ≤ c0_1) (hr1 : Kd.C (Kd.int .i64) w A1 l1.length l1) (hc1 : l1.length ≤ c1) (h : glossatorlaw3_QuerylangReads.f k a0_0 l0_1 l1 a2 = some r) :
  Calls Try.prog 14 #[.agg #[.int .i64 a0_0, .slice A0_1 l0_1.length c0_1], .slice A1 l1.length c1, .int .i64 a2] w fun e w' => e = .returned (.bool r) ∧ Below w.heap.size w w' := by
 have hu97 := Try.underlying97
 have HR0_1 := Aside0.mk hr0_1
 have HC0_1 := Aside0.mk hc0_1
 clear hr0_1 hc0_1
 have HR1 := Aside0.mk hr1
 have HC1 := Aside0.mk hc1
 clear hr1 hc1
 have HB := Aside0.mk (Below.refl w.heap.size w)
 have H : ((glossatorlaw3_queryExample.f k).bind fun t160 => (if t160 = true then ((querylang_Reads.f k a0_0 l0_1 l1 a2).bind fun bt161 => ((glossatorlaw3_evalError.f k a0_0 l0_1 l1 a2).bind fun t165 => (if t165 = 0 then ((glossatorlaw3_queryExample.f k).bind fun t166 => (if t166 = true then (if bt161.2 = 0 then ((glossatorref3_Reads.f k a0_0 l0_1 l1 a2).bind fun t167 => ((api_QKey_76.f k bt161.1 t167).bind fun t170 => (some t170))) else (some false)) else (some false))) else ((glossatorlaw3_queryExample.f k).bind fun t171 => (if t171 = true then (if bt161.2 = t165 then (some ((bt161.1.length : Int) == 0)) else (some false)) else (some false)))))) else (some false))) = some r := h
 clear h
 replace H := Option.bind_eq_some_iff.mp H
 obtain ⟨t160, A40, H⟩ := H
 replace H : (if t160 = true then ((querylang_Reads.f k a0_0 l0_1 l1 a2).bind fun bt161 => ((glossatorlaw3_evalError.f k a0_0 l0_1 l1 a2).bind fun t165 => (if t165 = 0 then ((glossatorlaw3_queryExample.f k).bind fun t166 => (if t166 = true then (if bt161.2 = 0 then ((glossatorref3_Reads.f k a0_0 l0_1 l1 a2).bind fun t167 => ((api_QKey_76.f k bt161.1 t167).bind fun t170 => (some t170))) else (some false)) else (some false))) else ((glossatorlaw3_queryExample.f k).bind fun t171 => (if t171 = true then (if bt161.2 = t165 then (some ((bt161.1.length : Int) == 0)) else (some false)) else (some false)))))) else (some false)) = some r := H
 have A4 := Aside0.mk A40
 clear A40
 by_cases c5 : t160 = true
 ·subst c5
  have H1 : ((querylang_Reads.f k a0_0 l0_1 l1 a2).bind fun bt161 => ((glossatorlaw3_evalError.f k a0_0 l0_1 l1 a2).bind fun t165 => (if t165 = 0 then ((glossatorlaw3_queryExample.f k).bind fun t166 => (if t166 = true then (if bt161.2 = 0 then ((glossatorref3_Reads.f k a0_0 l0_1 l1 a2).bind fun t167 => ((api_QKey_76.f k bt161.1 t167).bind fun t170 => (some t170))) else (some false)) else (some false))) else ((glossatorlaw3_queryExample.f k).bind fun t171 => (if t171 = true then (if bt161.2 = t165 then (some ((bt161.1.length : Int) == 0)) else (some false)) else (some false)))))) = some r := by rw [if_pos rfl] at H; exact H
  clear H
  have H := H1
  clear H1
  replace H := Option.bind_eq_some_iff.mp H
  obtain ⟨⟨t161, t164⟩, A60, H⟩ := H
  replace H : ((glossatorlaw3_evalError.f k a0_0 l0_1 l1 a2).bind fun t165 => (if t165 = 0 then ((glossatorlaw3_queryExample.f k).bind fun t166 => (if t166 = true then (if t164 = 0 then ((glossatorref3_Reads.f k a0_0 l0_1 l1 a2).bind fun t167 => ((api_QKey_76.f k t161 t167).bind fun t170 => (some t170))) else (some false)) else (some false))) else ((glossatorlaw3_queryExample.f k).bind fun t171 => (if t171 = true then (if t164 = t165 then (some ((t161.length : Int) == 0)) else (some false)) else (some false))))) = some r := H
  have A6 := Aside0.mk A60
  clear A60
  replace H := Option.bind_eq_some_iff.mp H
  obtain ⟨t165, A70, H⟩ := H
  replace H : (if t165 = 0 then ((glossatorlaw3_queryExample.f k).bind fun t166 => (if t166 = true then (if t164 = 0 then ((glossatorref3_Reads.f k a0_0 l0_1 l1 a2).bind fun t167 => ((api_QKey_76.f k t161 t167).bind fun t170 => (some t170))) else (some false)) else (some false))) else ((glossatorlaw3_queryExample.f k).bind fun t171 => (if t171 = true then (if t164 = t165 then (some ((t161.length : Int) == 0)) else (some false)) else (some false)))) = some r := H
  have A7 := Aside0.mk A70
  clear A70
  by_cases c8 : t165 = 0
  ·rw [if_pos c8] at H
   have c8b0 : (t165 == 0) = true := beq_iff_eq.mpr c8
   have c8b1 : (t165 != 0) = false := bne_eq_false_iff_eq.mpr c8
   clear c8
   replace H := Option.bind_eq_some_iff.mp H
   obtain ⟨t166, A90, H⟩ := H
   replace H : (if t166 = true then (if t164 = 0 then ((glossatorref3_Reads.f k a0_0 l0_1 l1 a2).bind fun t167 => ((api_QKey_76.f k t161 t167).bind fun t170 => (some t170))) else (some false)) else (some false)) = some r := H
   have A9 := Aside0.mk A90
   clear A90
   by_cases c10 : t166 = true
   ·subst c10
    have H1 : (if t164 = 0 then ((glossatorref3_Reads.f k a0_0 l0_1 l1 a2).bind fun t167 => ((api_QKey_76.f k t161 t167).bind fun t170 => (some t170))) else (some false)) = some r := by rw [if_pos rfl] at H; exact H
    clear H
    have H := H1
    clear H1
    by_cases c11 : t164 = 0
    ·rw [if_pos c11] at H
     have c11b0 : (t164 == 0) = true := beq_iff_eq.mpr c11
     have c11b1 : (t164 != 0) = false := bne_eq_false_iff_eq.mpr c11
     clear c11
     replace H := Option.bind_eq_some_iff.mp H
     obtain ⟨t167, A120, H⟩ := H
     replace H : ((api_QKey_76.f k t161 t167).bind fun t170 => (some t170)) = some r := H
     have A12 := Aside0.mk A120
     clear A120
     replace H := Option.bind_eq_some_iff.mp H
     obtain ⟨t170, A130, H⟩ := H
     replace H : (some t170) = some r := H
     have A13 := Aside0.mk A130
     clear A130
     obtain rfl := Option.some.inj H
     go_enter Try.func14, Try.ntmps14
     go_wp2_with (first | ((with_reducible refine gate_dst (N := 3) rfl ?_); (try (refine gate_guard (by rfl) ?_; dsimp only)); refine box_event ?hg (N := 3) ?hd (cs := #[.int .i64 a0_0, .slice A0_1 l0_1.length c0_1]) (t := 97) ?hr ?_; (case hd => rfl); (case hg => rfl); (case hr => first | (go_simp; done) | (go_simp; rfl)); intro gb159 hg w14 hbox hb; have n0_ := Aside0.mk (below_step (by repeat (first | (with_reducible first | exact HB.out | apply below_alloc | apply pw_below_drewN | apply below_drew1) | exact HB.out)) hb); have n1_ := Aside0.mk (hbox); have n2_ := Aside0.mk ((by rw [hg]; exact (below_size (by repeat (first | (with_reducible first | exact HB.out | apply below_alloc | apply pw_below_drewN | apply below_drew1) | exact HB.out))) : w.heap.size ≤ gb159)); have n3_ := Aside0.mk ((by rw [hg]; exact (below_size (by repeat (first | (with_reducible first | exact HB.out | apply below_alloc | apply pw_below_drewN | apply below_drew1) | exact HB.out))) : w.heap.size ≤ gb159)); clear HB; have HB := n0_; have BK159 := n1_; have GW159 := n2_; have GE159 := n3_; clear n0_ n1_ n2_ n3_; clear hb hbox hg) | ((with_reducible refine gate_callee (f := 56) rfl ?_); refine goesL_ (some 10) rfl rfl Try.func56 (by kernel_rfl) rfl #[] rfl (by (try simp only [List.map_toArray, List.map_cons, List.map_nil]); first | done | rfl | (simp only [List.length_drop, List.length_take]; rfl)) ?_; (with_reducible refine (glossatorlaw3_queryExample.calls k  true _ A4.out).mono ?_); rintro e w15 ⟨rfl, hb⟩; refine ⟨_, rfl, ?_⟩; have n0_ := Aside0.mk (blk_below (g := gb159) (o := .cells #[.int .i64 a0_0, .slice A0_1 l0_1.length c0_1] 97 (0, 0)) (by (with_reducible repeat (first | refine blk_drewN ?_ _ | refine blk_drew ?_ | refine blk_alloc ?_ _)); exact BK159.out) hb); have n1_ := Aside0.mk (below_step (by repeat (first | (with_reducible first | exact HB.out | apply below_alloc | apply pw_below_drewN | apply below_drew1 | refine below_set ?_ GE159.out) | exact HB.out)) hb); clear BK159; clear HB; have BK159 := n0_; have HB := n1_; clear n0_ n1_; (try clear hb); (try clear hb2); (try clear hk); (try clear hi); have hcz16_0 : w15.cell? ⟨gb159, 0, none⟩ = some (.int .i64 a0_0) := (blk_cell BK159.out 0).trans rfl; have hcz16_1 : w15.cell? ⟨gb159, 1, none⟩ = some (.slice A0_1 l0_1.length c0_1) := (blk_cell BK159.out 1).trans rfl; have hfz16_0 := blk_frozen BK159.out 0; have hfz16_1 := blk_frozen BK159.out 1) | ((with_reducible refine gate_callee (f := 75) rfl ?_); refine goesL_ (some 16) rfl rfl Try.func75 (by kernel_rfl) rfl #[.agg #[.int .i64 a0_0, .slice A0_1 l0_1.length c0_1], .slice A1 l1.length c1, .int .i64 a2] rfl (by (try simp only [List.map_toArray, List.map_cons, List.map_nil]); first | done | rfl | (simp only [List.length_drop, List.length_take]; rfl)) ?_; (with_reducible refine (querylang_Reads.calls k a0_0 _ _ l0_1 _ _ l1 a2 t161 t164 _ ?side1 ?side2 ?side3 ?side4 A6.out).mono ?_); (case side1 => repeat (first | exact (Kd.C_below HR0_1.out HB.out) | (with_reducible refine Kd.C_alloc ?_ _) | (with_reducible refine Kd.C_drewN ?_ _) | (with_reducible refine Kd.C_drew ?_))); (case side2 => exact HC0_1.out); (case side3 => repeat (first | exact (Kd.C_below HR1.out HB.out) | (with_reducible refine Kd.C_alloc ?_ _) | (with_reducible refine Kd.C_drewN ?_ _) | (with_reducible refine Kd.C_drew ?_))); (case side4 => exact HC1.out); rintro e w17 ⟨v162, rfl, ho0, hb⟩; refine ⟨_, rfl, ?_⟩; have n0_ := Aside0.mk (Kd.R_lower ho0 (below_size (by repeat (first | (with_reducible first | exact HB.out | apply below_alloc | apply pw_below_drewN | apply below_drew1 | refine below_set ?_ GE159.out) | exact HB.out)))); have n1_ := Aside0.mk (blk_below (g := gb159) (o := .cells #[.int .i64 a0_0, .slice A0_1 l0_1.length c0_1] 97 (0, 0)) (by (with_reducible repeat (first | refine blk_drewN ?_ _ | refine blk_drew ?_ | refine blk_alloc ?_ _)); exact BK159.out) hb); have n2_ := Aside0.mk (below_step (by repeat (first | (with_reducible first | exact HB.out | apply below_alloc | apply pw_below_drewN | apply below_drew1 | refine below_set ?_ GE159.out) | exact HB.out)) hb); clear BK159; clear HB; have HO163 := n0_; have BK159 := n1_; have HB := n2_; clear n0_ n1_ n2_; (try clear hb); (try clear hb2); (try clear hk); (try clear hi); (try clear ho0); have hcz18_0 : w17.cell? ⟨gb159, 0, none⟩ = some (.int .i64 a0_0) := (blk_cell BK159.out 0).trans rfl; have hcz18_1 : w17.cell? ⟨gb159, 1, none⟩ = some (.slice A0_1 l0_1.length c0_1) := (blk_cell BK159.out 1).trans rfl; have hfz18_0 := blk_frozen BK159.out 0; have hfz18_1 := blk_frozen BK159.out 1) | ((with_reducible refine gate_callee (f := 60) rfl ?_); refine goesL_ (some 22) rfl rfl Try.func60 (by kernel_rfl) rfl #[.agg #[.int .i64 a0_0, .slice A0_1 l0_1.length c0_1], .slice A1 l1.length c1, .int .i64 a2] rfl (by (try simp only [List.map_toArray, List.map_cons, List.map_nil]); first | done | rfl | (simp only [List.length_drop, List.length_take]; rfl)) ?_; (with_reducible refine (glossatorlaw3_evalError.calls k a0_0 _ _ l0_1 _ _ l1 a2 t165 _ ?side1 ?side2 ?side3 ?side4 A7.out).mono ?_); (case side1 => repeat (first | exact (Kd.C_below HR0_1.out HB.out) | (with_reducible refine Kd.C_alloc ?_ _) | (with_reducible refine Kd.C_drewN ?_ _) | (with_reducible refine Kd.C_drew ?_))); (case side2 => exact HC0_1.out); (case side3 => repeat (first | exact (Kd.C_below HR1.out HB.out) | (with_reducible refine Kd.C_alloc ?_ _) | (with_reducible refine Kd.C_drewN ?_ _) | (with_reducible refine Kd.C_drew ?_))); (case side4 => exact HC1.out); rintro e w19 ⟨rfl, hb⟩; refine ⟨_, rfl, ?_⟩; have n0_ := Aside0.mk (Kd.R_below (by (with_reducible repeat (first | apply Kd.R_alloc | apply Kd.R_drewN | apply Kd.R_drew)); exact HO163.out) hb); have n1_ := Aside0.mk (blk_below (g := gb159) (o := .cells #[.int .i64 a0_0, .slice A0_1 l0_1.length c0_1] 97 (0, 0)) (by (with_reducible repeat (first | refine blk_drewN ?_ _ | refine blk_drew ?_ | refine blk_alloc ?_ _)); exact BK159.out) hb); have n2_ := Aside0.mk (below_step (by repeat (first | (with_reducible first | exact HB.out | apply below_alloc | apply pw_below_drewN | apply below_drew1 | refine below_set ?_ GE159.out) | exact HB.out)) hb); clear HO163; clear BK159; clear HB; have HO163 := n0_; have BK159 := n1_; have HB := n2_; clear n0_ n1_ n2_; (try clear hb); (try clear hb2); (try clear hk); (try clear hi)) | ((with_reducible refine gate_callee (f := 56) rfl ?_); refine goesL_ (some 36) rfl rfl Try.func56 (by kernel_rfl) rfl #[] rfl (by (try simp only [List.map_toArray, List.map_cons, List.map_nil]); first | done | rfl | (simp only [List.length_drop, List.length_take]; rfl)) ?_; (with_reducible refine (glossatorlaw3_queryExample.calls k  true _ A9.out).mono ?_); rintro e w20 ⟨rfl, hb⟩; refine ⟨_, rfl, ?_⟩; have n0_ := Aside0.mk (Kd.R_below (by (with_reducible repeat (first | apply Kd.R_alloc | apply Kd.R_drewN | apply Kd.R_drew)); exact HO163.out) hb); have n1_ := Aside0.mk (blk_below (g := gb159) (o := .cells #[.int .i64 a0_0, .slice A0_1 l0_1.length c0_1] 97 (0, 0)) (by (with_reducible repeat (first | refine blk_drewN ?_ _ | refine blk_drew ?_ | refine blk_alloc ?_ _)); exact BK159.out) hb); have n2_ := Aside0.mk (below_step (by repeat (first | (with_reducible first | exact HB.out | apply below_alloc | apply pw_below_drewN | apply below_drew1 | refine below_set ?_ GE159.out) | exact HB.out)) hb); clear HO163; clear BK159; clear HB; have HO163 := n0_; have BK159 := n1_; have HB := n2_; clear n0_ n1_ n2_; (try clear hb); (try clear hb2); (try clear hk); (try clear hi); have hcz21_0 : w20.cell? ⟨gb159, 0, none⟩ = some (.int .i64 a0_0) := (blk_cell BK159.out 0).trans rfl; have hcz21_1 : w20.cell? ⟨gb159, 1, none⟩ = some (.slice A0_1 l0_1.length c0_1) := (blk_cell BK159.out 1).trans rfl; have hfz21_0 := blk_frozen BK159.out 0; have hfz21_1 := blk_frozen BK159.out 1) | (go_at_call 77; (with_reducible refine (glossatorref3_Reads.calls k a0_0 _ _ l0_1 _ _ l1 a2 t167 _ ?side1 ?side2 ?side3 ?side4 A12.out).mono ?_); (case side1 => repeat (first | exact (Kd.C_below HR0_1.out HB.out) | (with_reducible refine Kd.C_alloc ?_ _) | (with_reducible refine Kd.C_drewN ?_ _) | (with_reducible refine Kd.C_drew ?_))); (case side2 => exact HC0_1.out); (case side3 => repeat (first | exact (Kd.C_below HR1.out HB.out) | (with_reducible refine Kd.C_alloc ?_ _) | (with_reducible refine Kd.C_drewN ?_ _) | (with_reducible refine Kd.C_drew ?_))); (case side4 => exact HC1.out); rintro e w22 ⟨v168, rfl, ho0, hb⟩; have n0_ := Aside0.mk (Kd.R_elder' (by (with_reducible repeat (first | apply Kd.R_alloc | apply Kd.R_drewN | apply Kd.R_drew)); exact HO163.out) (Kd.R_base ho0) hb); have n1_ := Aside0.mk (Kd.R_lower (Kd.R_new' ho0 (Kd.R_lt (by (with_reducible repeat (first | apply Kd.R_alloc | apply Kd.R_drewN | apply Kd.R_drew)); exact HO163.out))) (below_size (by repeat (first | (with_reducible first | exact HB.out | apply below_alloc | apply pw_below_drewN | apply below_drew1 | refine below_set ?_ GE159.out) | exact HB.out)))); have n2_ := Aside0.mk (blk_below (g := gb159) (o := .cells #[.int .i64 a0_0, .slice A0_1 l0_1.length c0_1] 97 (0, 0)) (by (with_reducible repeat (first | refine blk_drewN ?_ _ | refine blk_drew ?_ | refine blk_alloc ?_ _)); exact BK159.out) hb); have n3_ := Aside0.mk (below_step (by repeat (first | (with_reducible first | exact HB.out | apply below_alloc | apply pw_below_drewN | apply below_drew1 | refine below_set ?_ GE159.out) | exact HB.out)) hb); clear HO163; clear BK159; clear HB; have HO163 := n0_; have HO169 := n1_; have BK159 := n2_; have HB := n3_; clear n0_ n1_ n2_ n3_; (try clear hb); (try clear hb2); (try clear hk); (try clear hi); (try clear ho0); obtain ⟨Ao23, co23, eo23⟩ := Kd.R_slice HO163.out; subst eo23; obtain ⟨Ao24, co24, eo24⟩ := Kd.R_slice HO169.out; subst eo24) | (go_at_call 76; (with_reducible refine (api_QKey_76.calls k _ _ t161 _ _ t167 t170 _ ?side1 ?side2 ?side3 ?side4 A13.out).mono ?_); (case side1 => repeat (first | exact (Kd.R_reads' HO163.out).2.2 | (with_reducible refine Kd.C_alloc ?_ _) | (with_reducible refine Kd.C_drewN ?_ _) | (with_reducible refine Kd.C_drew ?_))); (case side2 => exact (Kd.R_reads' HO163.out).2.1); (case side3 => repeat (first | exact (Kd.R_reads' HO169.out).2.2 | (with_reducible refine Kd.C_alloc ?_ _) | (with_reducible refine Kd.C_drewN ?_ _) | (with_reducible refine Kd.C_drew ?_))); (case side4 => exact (Kd.R_reads' HO169.out).2.1); rintro e w25 ⟨rfl, hb⟩; have n0_ := Aside0.mk (Kd.R_below (by (with_reducible repeat (first | apply Kd.R_alloc | apply Kd.R_drewN | apply Kd.R_drew)); exact HO163.out) hb); have n1_ := Aside0.mk (Kd.R_below (by (with_reducible repeat (first | apply Kd.R_alloc | apply Kd.R_drewN | apply Kd.R_drew)); exact HO169.out) hb); have n2_ := Aside0.mk (blk_below (g := gb159) (o := .cells #[.int .i64 a0_0, .slice A0_1 l0_1.length c0_1] 97 (0, 0)) (by (with_reducible repeat (first | refine blk_drewN ?_ _ | refine blk_drew ?_ | refine blk_alloc ?_ _)); exact BK159.out) hb); have n3_ := Aside0.mk (below_step (by repeat (first | (with_reducible first | exact HB.out | apply below_alloc | apply pw_below_drewN | apply below_drew1 | refine below_set ?_ GE159.out) | exact HB.out)) hb); clear HO163; clear HO169; clear BK159; clear HB; have HO163 := n0_; have HO169 := n1_; have BK159 := n2_; have HB := n3_; clear n0_ n1_ n2_ n3_; (try clear hb); (try clear hb2); (try clear hk); (try clear hi)))
     go_ret
     exact ⟨by first | rfl | (simp [errW_none, errW_some] <;> rfl) | (simp [*, errW_none, errW_some] <;> rfl), by repeat (first | (with_reducible first | exact HB.out | apply below_alloc | apply pw_below_drewN | apply below_drew1 | refine below_set ?_ GE159.out) | exact HB.out)⟩
    ·rw [if_neg c11] at H
     have c11b0 : (t164 == 0) = false := beq_eq_false_iff_ne.mpr c11
     have c11b1 : (t164 != 0) = true := bne_iff_ne.mpr c11
     obtain rfl := Option.some.inj H
     go_enter Try.func14, Try.ntmps14
     go_wp2_with (first | ((with_reducible refine gate_dst (N := 3) rfl ?_); (try (refine gate_guard (by rfl) ?_; dsimp only)); refine box_event ?hg (N := 3) ?hd (cs := #[.int .i64 a0_0, .slice A0_1 l0_1.length c0_1]) (t := 97) ?hr ?_; (case hd => rfl); (case hg => rfl); (case hr => first | (go_simp; done) | (go_simp; rfl)); intro gb159 hg w26 hbox hb; have n0_ := Aside0.mk (below_step (by repeat (first | (with_reducible first | exact HB.out | apply below_alloc | apply pw_below_drewN | apply below_drew1) | exact HB.out)) hb); have n1_ := Aside0.mk (hbox); have n2_ := Aside0.mk ((by rw [hg]; exact (below_size (by repeat (first | (with_reducible first | exact HB.out | apply below_alloc | apply pw_below_drewN | apply below_drew1) | exact HB.out))) : w.heap.size ≤ gb159)); have n3_ := Aside0.mk ((by rw [hg]; exact (below_size (by repeat (first | (with_reducible first | exact HB.out | apply below_alloc | apply pw_below_drewN | apply below_drew1) | exact HB.out))) : w.heap.size ≤ gb159)); clear HB; have HB := n0_; have BK159 := n1_; have GW159 := n2_; have GE159 := n3_; clear n0_ n1_ n2_ n3_; clear hb hbox hg) | ((with_reducible refine gate_callee (f := 56) rfl ?_); refine goesL_ (some 10) rfl rfl Try.func56 (by kernel_rfl) rfl #[] rfl (by (try simp only [List.map_toArray, List.map_cons, List.map_nil]); first | done | rfl | (simp only [List.length_drop, List.length_take]; rfl)) ?_; (with_reducible refine (glossatorlaw3_queryExample.calls k  true _ A4.out).mono ?_); rintro e w27 ⟨rfl, hb⟩; refine ⟨_, rfl, ?_⟩; have n0_ := Aside0.mk (blk_below (g := gb159) (o := .cells #[.int .i64 a0_0, .slice A0_1 l0_1.length c0_1] 97 (0, 0)) (by (with_reducible repeat (first | refine blk_drewN ?_ _ | refine blk_drew ?_ | refine blk_alloc ?_ _)); exact BK159.out) hb); have n1_ := Aside0.mk (below_step (by repeat (first | (with_reducible first | exact HB.out | apply below_alloc | apply pw_below_drewN | apply below_drew1 | refine below_set ?_ GE159.out) | exact HB.out)) hb); clear BK159; clear HB; have BK159 := n0_; have HB := n1_; clear n0_ n1_; (try clear hb); (try clear hb2); (try clear hk); (try clear hi); have hcz28_0 : w27.cell? ⟨gb159, 0, none⟩ = some (.int .i64 a0_0) := (blk_cell BK159.out 0).trans rfl; have hcz28_1 : w27.cell? ⟨gb159, 1, none⟩ = some (.slice A0_1 l0_1.length c0_1) := (blk_cell BK159.out 1).trans rfl; have hfz28_0 := blk_frozen BK159.out 0; have hfz28_1 := blk_frozen BK159.out 1) | ((with_reducible refine gate_callee (f := 75) rfl ?_); refine goesL_ (some 16) rfl rfl Try.func75 (by kernel_rfl) rfl #[.agg #[.int .i64 a0_0, .slice A0_1 l0_1.length c0_1], .slice A1 l1.length c1, .int .i64 a2] rfl (by (try simp only [List.map_toArray, List.map_cons, List.map_nil]); first | done | rfl | (simp only [List.length_drop, List.length_take]; rfl)) ?_; (with_reducible refine (querylang_Reads.calls k a0_0 _ _ l0_1 _ _ l1 a2 t161 t164 _ ?side1 ?side2 ?side3 ?side4 A6.out).mono ?_); (case side1 => repeat (first | exact (Kd.C_below HR0_1.out HB.out) | (with_reducible refine Kd.C_alloc ?_ _) | (with_reducible refine Kd.C_drewN ?_ _) | (with_reducible refine Kd.C_drew ?_))); (case side2 => exact HC0_1.out); (case side3 => repeat (first | exact (Kd.C_below HR1.out HB.out) | (with_reducible refine Kd.C_alloc ?_ _) | (with_reducible refine Kd.C_drewN ?_ _) | (with_reducible refine Kd.C_drew ?_))); (case side4 => exact HC1.out); rintro e w29 ⟨v162, rfl, ho0, hb⟩; refine ⟨_, rfl, ?_⟩; have n0_ := Aside0.mk (Kd.R_lower ho0 (below_size (by repeat (first | (with_reducible first | exact HB.out | apply below_alloc | apply pw_below_drewN | apply below_drew1 | refine below_set ?_ GE159.out) | exact HB.out)))); have n1_ := Aside0.mk (blk_below (g := gb159) (o := .cells #[.int .i64 a0_0, .slice A0_1 l0_1.length c0_1] 97 (0, 0)) (by (with_reducible repeat (first | refine blk_drewN ?_ _ | refine blk_drew ?_ | refine blk_alloc ?_ _)); exact BK159.out) hb); have n2_ := Aside0.mk (below_step (by repeat (first | (with_reducible first | exact HB.out | apply below_alloc | apply pw_below_drewN | apply below_drew1 | refine below_set ?_ GE159.out) | exact HB.out)) hb); clear BK159; clear HB; have HO163 := n0_; have BK159 := n1_; have HB := n2_; clear n0_ n1_ n2_; (try clear hb); (try clear hb2); (try clear hk); (try clear hi); (try clear ho0); have hcz30_0 : w29.cell? ⟨gb159, 0, none⟩ = some (.int .i64 a0_0) := (blk_cell BK159.out 0).trans rfl; have hcz30_1 : w29.cell? ⟨gb159, 1, none⟩ = some (.slice A0_1 l0_1.length c0_1) := (blk_cell BK159.out 1).trans rfl; have hfz30_0 := blk_frozen BK159.out 0; have hfz30_1 := blk_frozen BK159.out 1) | ((with_reducible refine gate_callee (f := 60) rfl ?_); refine goesL_ (some 22) rfl rfl Try.func60 (by kernel_rfl) rfl #[.agg #[.int .i64 a0_0, .slice A0_1 l0_1.length c0_1], .slice A1 l1.length c1, .int .i64 a2] rfl (by (try simp only [List.map_toArray, List.map_cons, List.map_nil]); first | done | rfl | (simp only [List.length_drop, List.length_take]; rfl)) ?_; (with_reducible refine (glossatorlaw3_evalError.calls k a0_0 _ _ l0_1 _ _ l1 a2 t165 _ ?side1 ?side2 ?side3 ?side4 A7.out).mono ?_); (case side1 => repeat (first | exact (Kd.C_below HR0_1.out HB.out) | (with_reducible refine Kd.C_alloc ?_ _) | (with_reducible refine Kd.C_drewN ?_ _) | (with_reducible refine Kd.C_drew ?_))); (case side2 => exact HC0_1.out); (case side3 => repeat (first | exact (Kd.C_below HR1.out HB.out) | (with_reducible refine Kd.C_alloc ?_ _) | (with_reducible refine Kd.C_drewN ?_ _) | (with_reducible refine Kd.C_drew ?_))); (case side4 => exact HC1.out); rintro e w31 ⟨rfl, hb⟩; refine ⟨_, rfl, ?_⟩; have n0_ := Aside0.mk (Kd.R_below (by (with_reducible repeat (first | apply Kd.R_alloc | apply Kd.R_drewN | apply Kd.R_drew)); exact HO163.out) hb); have n1_ := Aside0.mk (blk_below (g := gb159) (o := .cells #[.int .i64 a0_0, .slice A0_1 l0_1.length c0_1] 97 (0, 0)) (by (with_reducible repeat (first | refine blk_drewN ?_ _ | refine blk_drew ?_ | refine blk_alloc ?_ _)); exact BK159.out) hb); have n2_ := Aside0.mk (below_step (by repeat (first | (with_reducible first | exact HB.out | apply below_alloc | apply pw_below_drewN | apply below_drew1 | refine below_set ?_ GE159.out) | exact HB.out)) hb); clear HO163; clear BK159; clear HB; have HO163 := n0_; have BK159 := n1_; have HB := n2_; clear n0_ n1_ n2_; (try clear hb); (try clear hb2); (try clear hk); (try clear hi)) | ((with_reducible refine gate_callee (f := 56) rfl ?_); refine goesL_ (some 36) rfl rfl Try.func56 (by kernel_rfl) rfl #[] rfl (by (try simp only [List.map_toArray, List.map_cons, List.map_nil]); first | done | rfl | (simp only [List.length_drop, List.length_take]; rfl)) ?_; (with_reducible refine (glossatorlaw3_queryExample.calls k  true _ A9.out).mono ?_); rintro e w32 ⟨rfl, hb⟩; refine ⟨_, rfl, ?_⟩; have n0_ := Aside0.mk (Kd.R_below (by (with_reducible repeat (first | apply Kd.R_alloc | apply Kd.R_drewN | apply Kd.R_drew)); exact HO163.out) hb); have n1_ := Aside0.mk (blk_below (g := gb159) (o := .cells #[.int .i64 a0_0, .slice A0_1 l0_1.length c0_1] 97 (0, 0)) (by (with_reducible repeat (first | refine blk_drewN ?_ _ | refine blk_drew ?_ | refine blk_alloc ?_ _)); exact BK159.out) hb); have n2_ := Aside0.mk (below_step (by repeat (first | (with_reducible first | exact HB.out | apply below_alloc | apply pw_below_drewN | apply below_drew1 | refine below_set ?_ GE159.out) | exact HB.out)) hb); clear HO163; clear BK159; clear HB; have HO163 := n0_; have BK159 := n1_; have HB := n2_; clear n0_ n1_ n2_; (try clear hb); (try clear hb2); (try clear hk); (try clear hi)))
     go_ret
     exact ⟨by first | rfl | (simp [errW_none, errW_some] <;> rfl) | (simp [*, errW_none, errW_some] <;> rfl), by repeat (first | (with_reducible first | exact HB.out | apply below_alloc | apply pw_below_drewN | apply below_drew1 | refine below_set ?_ GE159.out) | exact HB.out)⟩
   ·replace c10 := Bool.eq_false_iff.mpr c10
    subst c10
    have H1 : (some false) = some r := by rw [if_neg (show ¬ (false = true) by decide)] at H; exact H
    clear H
    have H := H1
    clear H1
    obtain rfl := Option.some.inj H
    go_enter Try.func14, Try.ntmps14
    go_wp2_with (first | ((with_reducible refine gate_dst (N := 3) rfl ?_); (try (refine gate_guard (by rfl) ?_; dsimp only)); refine box_event ?hg (N := 3) ?hd (cs := #[.int .i64 a0_0, .slice A0_1 l0_1.length c0_1]) (t := 97) ?hr ?_; (case hd => rfl); (case hg => rfl); (case hr => first | (go_simp; done) | (go_simp; rfl)); intro gb159 hg w33 hbox hb; have n0_ := Aside0.mk (below_step (by repeat (first | (with_reducible first | exact HB.out | apply below_alloc | apply pw_below_drewN | apply below_drew1) | exact HB.out)) hb); have n1_ := Aside0.mk (hbox); have n2_ := Aside0.mk ((by rw [hg]; exact (below_size (by repeat (first | (with_reducible first | exact HB.out | apply below_alloc | apply pw_below_drewN | apply below_drew1) | exact HB.out))) : w.heap.size ≤ gb159)); have n3_ := Aside0.mk ((by rw [hg]; exact (below_size (by repeat (first | (with_reducible first | exact HB.out | apply below_alloc | apply pw_below_drewN | apply below_drew1) | exact HB.out))) : w.heap.size ≤ gb159)); clear HB; have HB := n0_; have BK159 := n1_; have GW159 := n2_; have GE159 := n3_; clear n0_ n1_ n2_ n3_; clear hb hbox hg) | ((with_reducible refine gate_callee (f := 56) rfl ?_); refine goesL_ (some 10) rfl rfl Try.func56 (by kernel_rfl) rfl #[] rfl (by (try simp only [List.map_toArray, List.map_cons, List.map_nil]); first | done | rfl | (simp only [List.length_drop, List.length_take]; rfl)) ?_; (with_reducible refine (glossatorlaw3_queryExample.calls k  true _ A4.out).mono ?_); rintro e w34 ⟨rfl, hb⟩; refine ⟨_, rfl, ?_⟩; have n0_ := Aside0.mk (blk_below (g := gb159) (o := .cells #[.int .i64 a0_0, .slice A0_1 l0_1.length c0_1] 97 (0, 0)) (by (with_reducible repeat (first | refine blk_drewN ?_ _ | refine blk_drew ?_ | refine blk_alloc ?_ _)); exact BK159.out) hb); have n1_ := Aside0.mk (below_step (by repeat (first | (with_reducible first | exact HB.out | apply below_alloc | apply pw_below_drewN | apply below_drew1 | refine below_set ?_ GE159.out) | exact HB.out)) hb); clear BK159; clear HB; have BK159 := n0_; have HB := n1_; clear n0_ n1_; (try clear hb); (try clear hb2); (try clear hk); (try clear hi); have hcz35_0 : w34.cell? ⟨gb159, 0, none⟩ = some (.int .i64 a0_0) := (blk_cell BK159.out 0).trans rfl; have hcz35_1 : w34.cell? ⟨gb159, 1, none⟩ = some (.slice A0_1 l0_1.length c0_1) := (blk_cell BK159.out 1).trans rfl; have hfz35_0 := blk_frozen BK159.out 0; have hfz35_1 := blk_frozen BK159.out 1) | ((with_reducible refine gate_callee (f := 75) rfl ?_); refine goesL_ (some 16) rfl rfl Try.func75 (by kernel_rfl) rfl #[.agg #[.int .i64 a0_0, .slice A0_1 l0_1.length c0_1], .slice A1 l1.length c1, .int .i64 a2] rfl (by (try simp only [List.map_toArray, List.map_cons, List.map_nil]); first | done | rfl | (simp only [List.length_drop, List.length_take]; rfl)) ?_; (with_reducible refine (querylang_Reads.calls k a0_0 _ _ l0_1 _ _ l1 a2 t161 t164 _ ?side1 ?side2 ?side3 ?side4 A6.out).mono ?_); (case side1 => repeat (first | exact (Kd.C_below HR0_1.out HB.out) | (with_reducible refine Kd.C_alloc ?_ _) | (with_reducible refine Kd.C_drewN ?_ _) | (with_reducible refine Kd.C_drew ?_))); (case side2 => exact HC0_1.out); (case side3 => repeat (first | exact (Kd.C_below HR1.out HB.out) | (with_reducible refine Kd.C_alloc ?_ _) | (with_reducible refine Kd.C_drewN ?_ _) | (with_reducible refine Kd.C_drew ?_))); (case side4 => exact HC1.out); rintro e w36 ⟨v162, rfl, ho0, hb⟩; refine ⟨_, rfl, ?_⟩; have n0_ := Aside0.mk (Kd.R_lower ho0 (below_size (by repeat (first | (with_reducible first | exact HB.out | apply below_alloc | apply pw_below_drewN | apply below_drew1 | refine below_set ?_ GE159.out) | exact HB.out)))); have n1_ := Aside0.mk (blk_below (g := gb159) (o := .cells #[.int .i64 a0_0, .slice A0_1 l0_1.length c0_1] 97 (0, 0)) (by (with_reducible repeat (first | refine blk_drewN ?_ _ | refine blk_drew ?_ | refine blk_alloc ?_ _)); exact BK159.out) hb); have n2_ := Aside0.mk (below_step (by repeat (first | (with_reducible first | exact HB.out | apply below_alloc | apply pw_below_drewN | apply below_drew1 | refine below_set ?_ GE159.out) | exact HB.out)) hb); clear BK159; clear HB; have HO163 := n0_; have BK159 := n1_; have HB := n2_; clear n0_ n1_ n2_; (try clear hb); (try clear hb2); (try clear hk); (try clear hi); (try clear ho0); have hcz37_0 : w36.cell? ⟨gb159, 0, none⟩ = some (.int .i64 a0_0) := (blk_cell BK159.out 0).trans rfl; have hcz37_1 : w36.cell? ⟨gb159, 1, none⟩ = some (.slice A0_1 l0_1.length c0_1) := (blk_cell BK159.out 1).trans rfl; have hfz37_0 := blk_frozen BK159.out 0; have hfz37_1 := blk_frozen BK159.out 1) | ((with_reducible refine gate_callee (f := 60) rfl ?_); refine goesL_ (some 22) rfl rfl Try.func60 (by kernel_rfl) rfl #[.agg #[.int .i64 a0_0, .slice A0_1 l0_1.length c0_1], .slice A1 l1.length c1, .int .i64 a2] rfl (by (try simp only [List.map_toArray, List.map_cons, List.map_nil]); first | done | rfl | (simp only [List.length_drop, List.length_take]; rfl)) ?_; (with_reducible refine (glossatorlaw3_evalError.calls k a0_0 _ _ l0_1 _ _ l1 a2 t165 _ ?side1 ?side2 ?side3 ?side4 A7.out).mono ?_); (case side1 => repeat (first | exact (Kd.C_below HR0_1.out HB.out) | (with_reducible refine Kd.C_alloc ?_ _) | (with_reducible refine Kd.C_drewN ?_ _) | (with_reducible refine Kd.C_drew ?_))); (case side2 => exact HC0_1.out); (case side3 => repeat (first | exact (Kd.C_below HR1.out HB.out) | (with_reducible refine Kd.C_alloc ?_ _) | (with_reducible refine Kd.C_drewN ?_ _) | (with_reducible refine Kd.C_drew ?_))); (case side4 => exact HC1.out); rintro e w38 ⟨rfl, hb⟩; refine ⟨_, rfl, ?_⟩; have n0_ := Aside0.mk (Kd.R_below (by (with_reducible repeat (first | apply Kd.R_alloc | apply Kd.R_drewN | apply Kd.R_drew)); exact HO163.out) hb); have n1_ := Aside0.mk (blk_below (g := gb159) (o := .cells #[.int .i64 a0_0, .slice A0_1 l0_1.length c0_1] 97 (0, 0)) (by (with_reducible repeat (first | refine blk_drewN ?_ _ | refine blk_drew ?_ | refine blk_alloc ?_ _)); exact BK159.out) hb); have n2_ := Aside0.mk (below_step (by repeat (first | (with_reducible first | exact HB.out | apply below_alloc | apply pw_below_drewN | apply below_drew1 | refine below_set ?_ GE159.out) | exact HB.out)) hb); clear HO163; clear BK159; clear HB; have HO163 := n0_; have BK159 := n1_; have HB := n2_; clear n0_ n1_ n2_; (try clear hb); (try clear hb2); (try clear hk); (try clear hi)) | ((with_reducible refine gate_callee (f := 56) rfl ?_); refine goesL_ (some 36) rfl rfl Try.func56 (by kernel_rfl) rfl #[] rfl (by (try simp only [List.map_toArray, List.map_cons, List.map_nil]); first | done | rfl | (simp only [List.length_drop, List.length_take]; rfl)) ?_; (with_reducible refine (glossatorlaw3_queryExample.calls k  false _ A9.out).mono ?_); rintro e w39 ⟨rfl, hb⟩; refine ⟨_, rfl, ?_⟩; have n0_ := Aside0.mk (Kd.R_below (by (with_reducible repeat (first | apply Kd.R_alloc | apply Kd.R_drewN | apply Kd.R_drew)); exact HO163.out) hb); have n1_ := Aside0.mk (blk_below (g := gb159) (o := .cells #[.int .i64 a0_0, .slice A0_1 l0_1.length c0_1] 97 (0, 0)) (by (with_reducible repeat (first | refine blk_drewN ?_ _ | refine blk_drew ?_ | refine blk_alloc ?_ _)); exact BK159.out) hb); have n2_ := Aside0.mk (below_step (by repeat (first | (with_reducible first | exact HB.out | apply below_alloc | apply pw_below_drewN | apply below_drew1 | refine below_set ?_ GE159.out) | exact HB.out)) hb); clear HO163; clear BK159; clear HB; have HO163 := n0_; have BK159 := n1_; have HB := n2_; clear n0_ n1_ n2_; (try clear hb); (try clear hb2); (try clear hk); (try clear hi)))
    go_ret
    exact ⟨by first | rfl | (simp [errW_none, errW_some] <;> rfl) | (simp [*, errW_none, errW_some] <;> rfl), by repeat (first | (with_reducible first | exact HB.out | apply below_alloc | apply pw_below_drewN | apply below_drew1 | refine below_set ?_ GE159.out) | exact HB.out)⟩
  ·rw [if_neg c8] at H
   have c8b0 : (t165 == 0) = false := beq_eq_false_iff_ne.mpr c8
   have c8b1 : (t165 != 0) = true := bne_iff_ne.mpr c8
   replace H := Option.bind_eq_some_iff.mp H
   obtain ⟨t171, A400, H⟩ := H
   replace H : (if t171 = true then (if t164 = t165 then (some ((t161.length : Int) == 0)) else (some false)) else (some false)) = some r := H
   have A40 := Aside0.mk A400
   clear A400
   by_cases c41 : t171 = true
   ·subst c41
    have H1 : (if t164 = t165 then (some ((t161.length : Int) == 0)) else (some false)) = some r := by rw [if_pos rfl] at H; exact H
    clear H
    have H := H1
    clear H1
    by_cases c42 : t164 = t165
    ·rw [if_pos c42] at H
     have c42b0 : (t164 == t165) = true := beq_iff_eq.mpr c42
     have c42b1 : (t164 != t165) = false := bne_eq_false_iff_eq.mpr c42
     clear c42
     obtain rfl := Option.some.inj H
     go_enter Try.func14, Try.ntmps14
     go_wp2_with (first | ((with_reducible refine gate_dst (N := 3) rfl ?_); (try (refine gate_guard (by rfl) ?_; dsimp only)); refine box_event ?hg (N := 3) ?hd (cs := #[.int .i64 a0_0, .slice A0_1 l0_1.length c0_1]) (t := 97) ?hr ?_; (case hd => rfl); (case hg => rfl); (case hr => first | (go_simp; done) | (go_simp; rfl)); intro gb159 hg w43 hbox hb; have n0_ := Aside0.mk (below_step (by repeat (first | (with_reducible first | exact HB.out | apply below_alloc | apply pw_below_drewN | apply below_drew1) | exact HB.out)) hb); have n1_ := Aside0.mk (hbox); have n2_ := Aside0.mk ((by rw [hg]; exact (below_size (by repeat (first | (with_reducible first | exact HB.out | apply below_alloc | apply pw_below_drewN | apply below_drew1) | exact HB.out))) : w.heap.size ≤ gb159)); have n3_ := Aside0.mk ((by rw [hg]; exact (below_size (by repeat (first | (with_reducible first | exact HB.out | apply below_alloc | apply pw_below_drewN | apply below_drew1) | exact HB.out))) : w.heap.size ≤ gb159)); clear HB; have HB := n0_; have BK159 := n1_; have GW159 := n2_; have GE159 := n3_; clear n0_ n1_ n2_ n3_; clear hb hbox hg) | ((with_reducible refine gate_callee (f := 56) rfl ?_); refine goesL_ (some 10) rfl rfl Try.func56 (by kernel_rfl) rfl #[] rfl (by (try simp only [List.map_toArray, List.map_cons, List.map_nil]); first | done | rfl | (simp only [List.length_drop, List.length_take]; rfl)) ?_; (with_reducible refine (glossatorlaw3_queryExample.calls k  true _ A4.out).mono ?_); rintro e w44 ⟨rfl, hb⟩; refine ⟨_, rfl, ?_⟩; have n0_ := Aside0.mk (blk_below (g := gb159) (o := .cells #[.int .i64 a0_0, .slice A0_1 l0_1.length c0_1] 97 (0, 0)) (by (with_reducible repeat (first | refine blk_drewN ?_ _ | refine blk_drew ?_ | refine blk_alloc ?_ _)); exact BK159.out) hb); have n1_ := Aside0.mk (below_step (by repeat (first | (with_reducible first | exact HB.out | apply below_alloc | apply pw_below_drewN | apply below_drew1 | refine below_set ?_ GE159.out) | exact HB.out)) hb); clear BK159; clear HB; have BK159 := n0_; have HB := n1_; clear n0_ n1_; (try clear hb); (try clear hb2); (try clear hk); (try clear hi); have hcz45_0 : w44.cell? ⟨gb159, 0, none⟩ = some (.int .i64 a0_0) := (blk_cell BK159.out 0).trans rfl; have hcz45_1 : w44.cell? ⟨gb159, 1, none⟩ = some (.slice A0_1 l0_1.length c0_1) := (blk_cell BK159.out 1).trans rfl; have hfz45_0 := blk_frozen BK159.out 0; have hfz45_1 := blk_frozen BK159.out 1) | ((with_reducible refine gate_callee (f := 75) rfl ?_); refine goesL_ (some 16) rfl rfl Try.func75 (by kernel_rfl) rfl #[.agg #[.int .i64 a0_0, .slice A0_1 l0_1.length c0_1], .slice A1 l1.length c1, .int .i64 a2] rfl (by (try simp only [List.map_toArray, List.map_cons, List.map_nil]); first | done | rfl | (simp only [List.length_drop, List.length_take]; rfl)) ?_; (with_reducible refine (querylang_Reads.calls k a0_0 _ _ l0_1 _ _ l1 a2 t161 t164 _ ?side1 ?side2 ?side3 ?side4 A6.out).mono ?_); (case side1 => repeat (first | exact (Kd.C_below HR0_1.out HB.out) | (with_reducible refine Kd.C_alloc ?_ _) | (with_reducible refine Kd.C_drewN ?_ _) | (with_reducible refine Kd.C_drew ?_))); (case side2 => exact HC0_1.out); (case side3 => repeat (first | exact (Kd.C_below HR1.out HB.out) | (with_reducible refine Kd.C_alloc ?_ _) | (with_reducible refine Kd.C_drewN ?_ _) | (with_reducible refine Kd.C_drew ?_))); (case side4 => exact HC1.out); rintro e w46 ⟨v162, rfl, ho0, hb⟩; refine ⟨_, rfl, ?_⟩; have n0_ := Aside0.mk (Kd.R_lower ho0 (below_size (by repeat (first | (with_reducible first | exact HB.out | apply below_alloc | apply pw_below_drewN | apply below_drew1 | refine below_set ?_ GE159.out) | exact HB.out)))); have n1_ := Aside0.mk (blk_below (g := gb159) (o := .cells #[.int .i64 a0_0, .slice A0_1 l0_1.length c0_1] 97 (0, 0)) (by (with_reducible repeat (first | refine blk_drewN ?_ _ | refine blk_drew ?_ | refine blk_alloc ?_ _)); exact BK159.out) hb); have n2_ := Aside0.mk (below_step (by repeat (first | (with_reducible first | exact HB.out | apply below_alloc | apply pw_below_drewN | apply below_drew1 | refine below_set ?_ GE159.out) | exact HB.out)) hb); clear BK159; clear HB; have HO163 := n0_; have BK159 := n1_; have HB := n2_; clear n0_ n1_ n2_; (try clear hb); (try clear hb2); (try clear hk); (try clear hi); (try clear ho0); have hcz47_0 : w46.cell? ⟨gb159, 0, none⟩ = some (.int .i64 a0_0) := (blk_cell BK159.out 0).trans rfl; have hcz47_1 : w46.cell? ⟨gb159, 1, none⟩ = some (.slice A0_1 l0_1.length c0_1) := (blk_cell BK159.out 1).trans rfl; have hfz47_0 := blk_frozen BK159.out 0; have hfz47_1 := blk_frozen BK159.out 1) | ((with_reducible refine gate_callee (f := 60) rfl ?_); refine goesL_ (some 22) rfl rfl Try.func60 (by kernel_rfl) rfl #[.agg #[.int .i64 a0_0, .slice A0_1 l0_1.length c0_1], .slice A1 l1.length c1, .int .i64 a2] rfl (by (try simp only [List.map_toArray, List.map_cons, List.map_nil]); first | done | rfl | (simp only [List.length_drop, List.length_take]; rfl)) ?_; (with_reducible refine (glossatorlaw3_evalError.calls k a0_0 _ _ l0_1 _ _ l1 a2 t165 _ ?side1 ?side2 ?side3 ?side4 A7.out).mono ?_); (case side1 => repeat (first | exact (Kd.C_below HR0_1.out HB.out) | (with_reducible refine Kd.C_alloc ?_ _) | (with_reducible refine Kd.C_drewN ?_ _) | (with_reducible refine Kd.C_drew ?_))); (case side2 => exact HC0_1.out); (case side3 => repeat (first | exact (Kd.C_below HR1.out HB.out) | (with_reducible refine Kd.C_alloc ?_ _) | (with_reducible refine Kd.C_drewN ?_ _) | (with_reducible refine Kd.C_drew ?_))); (case side4 => exact HC1.out); rintro e w48 ⟨rfl, hb⟩; refine ⟨_, rfl, ?_⟩; have n0_ := Aside0.mk (Kd.R_below (by (with_reducible repeat (first | apply Kd.R_alloc | apply Kd.R_drewN | apply Kd.R_drew)); exact HO163.out) hb); have n1_ := Aside0.mk (blk_below (g := gb159) (o := .cells #[.int .i64 a0_0, .slice A0_1 l0_1.length c0_1] 97 (0, 0)) (by (with_reducible repeat (first | refine blk_drewN ?_ _ | refine blk_drew ?_ | refine blk_alloc ?_ _)); exact BK159.out) hb); have n2_ := Aside0.mk (below_step (by repeat (first | (with_reducible first | exact HB.out | apply below_alloc | apply pw_below_drewN | apply below_drew1 | refine below_set ?_ GE159.out) | exact HB.out)) hb); clear HO163; clear BK159; clear HB; have HO163 := n0_; have BK159 := n1_; have HB := n2_; clear n0_ n1_ n2_; (try clear hb); (try clear hb2); (try clear hk); (try clear hi)) | ((with_reducible refine gate_callee (f := 56) rfl ?_); refine goesL_ (some 25) rfl rfl Try.func56 (by kernel_rfl) rfl #[] rfl (by (try simp only [List.map_toArray, List.map_cons, List.map_nil]); first | done | rfl | (simp only [List.length_drop, List.length_take]; rfl)) ?_; (with_reducible refine (glossatorlaw3_queryExample.calls k  true _ A40.out).mono ?_); rintro e w49 ⟨rfl, hb⟩; refine ⟨_, rfl, ?_⟩; have n0_ := Aside0.mk (Kd.R_below (by (with_reducible repeat (first | apply Kd.R_alloc | apply Kd.R_drewN | apply Kd.R_drew)); exact HO163.out) hb); have n1_ := Aside0.mk (blk_below (g := gb159) (o := .cells #[.int .i64 a0_0, .slice A0_1 l0_1.length c0_1] 97 (0, 0)) (by (with_reducible repeat (first | refine blk_drewN ?_ _ | refine blk_drew ?_ | refine blk_alloc ?_ _)); exact BK159.out) hb); have n2_ := Aside0.mk (below_step (by repeat (first | (with_reducible first | exact HB.out | apply below_alloc | apply pw_below_drewN | apply below_drew1 | refine below_set ?_ GE159.out) | exact HB.out)) hb); clear HO163; clear BK159; clear HB; have HO163 := n0_; have BK159 := n1_; have HB := n2_; clear n0_ n1_ n2_; (try clear hb); (try clear hb2); (try clear hk); (try clear hi); obtain ⟨Ao50, co50, eo50⟩ := Kd.R_slice HO163.out; subst eo50))
     go_ret
     exact ⟨by first | rfl | (simp [errW_none, errW_some] <;> rfl) | (simp [*, errW_none, errW_some] <;> rfl), by repeat (first | (with_reducible first | exact HB.out | apply below_alloc | apply pw_below_drewN | apply below_drew1 | refine below_set ?_ GE159.out) | exact HB.out)⟩
    ·rw [if_neg c42] at H
     have c42b0 : (t164 == t165) = false := beq_eq_false_iff_ne.mpr c42
     have c42b1 : (t164 != t165) = true := bne_iff_ne.mpr c42
     obtain rfl := Option.some.inj H
     go_enter Try.func14, Try.ntmps14
     go_wp2_with (first | ((with_reducible refine gate_dst (N := 3) rfl ?_); (try (refine gate_guard (by rfl) ?_; dsimp only)); refine box_event ?hg (N := 3) ?hd (cs := #[.int .i64 a0_0, .slice A0_1 l0_1.length c0_1]) (t := 97) ?hr ?_; (case hd => rfl); (case hg => rfl); (case hr => first | (go_simp; done) | (go_simp; rfl)); intro gb159 hg w51 hbox hb; have n0_ := Aside0.mk (below_step (by repeat (first | (with_reducible first | exact HB.out | apply below_alloc | apply pw_below_drewN | apply below_drew1) | exact HB.out)) hb); have n1_ := Aside0.mk (hbox); have n2_ := Aside0.mk ((by rw [hg]; exact (below_size (by repeat (first | (with_reducible first | exact HB.out | apply below_alloc | apply pw_below_drewN | apply below_drew1) | exact HB.out))) : w.heap.size ≤ gb159)); have n3_ := Aside0.mk ((by rw [hg]; exact (below_size (by repeat (first | (with_reducible first | exact HB.out | apply below_alloc | apply pw_below_drewN | apply below_drew1) | exact HB.out))) : w.heap.size ≤ gb159)); clear HB; have HB := n0_; have BK159 := n1_; have GW159 := n2_; have GE159 := n3_; clear n0_ n1_ n2_ n3_; clear hb hbox hg) | ((with_reducible refine gate_callee (f := 56) rfl ?_); refine goesL_ (some 10) rfl rfl Try.func56 (by kernel_rfl) rfl #[] rfl (by (try simp only [List.map_toArray, List.map_cons, List.map_nil]); first | done | rfl | (simp only [List.length_drop, List.length_take]; rfl)) ?_; (with_reducible refine (glossatorlaw3_queryExample.calls k  true _ A4.out).mono ?_); rintro e w52 ⟨rfl, hb⟩; refine ⟨_, rfl, ?_⟩; have n0_ := Aside0.mk (blk_below (g := gb159) (o := .cells #[.int .i64 a0_0, .slice A0_1 l0_1.length c0_1] 97 (0, 0)) (by (with_reducible repeat (first | refine blk_drewN ?_ _ | refine blk_drew ?_ | refine blk_alloc ?_ _)); exact BK159.out) hb); have n1_ := Aside0.mk (below_step (by repeat (first | (with_reducible first | exact HB.out | apply below_alloc | apply pw_below_drewN | apply below_drew1 | refine below_set ?_ GE159.out) | exact HB.out)) hb); clear BK159; clear HB; have BK159 := n0_; have HB := n1_; clear n0_ n1_; (try clear hb); (try clear hb2); (try clear hk); (try clear hi); have hcz53_0 : w52.cell? ⟨gb159, 0, none⟩ = some (.int .i64 a0_0) := (blk_cell BK159.out 0).trans rfl; have hcz53_1 : w52.cell? ⟨gb159, 1, none⟩ = some (.slice A0_1 l0_1.length c0_1) := (blk_cell BK159.out 1).trans rfl; have hfz53_0 := blk_frozen BK159.out 0; have hfz53_1 := blk_frozen BK159.out 1) | ((with_reducible refine gate_callee (f := 75) rfl ?_); refine goesL_ (some 16) rfl rfl Try.func75 (by kernel_rfl) rfl #[.agg #[.int .i64 a0_0, .slice A0_1 l0_1.length c0_1], .slice A1 l1.length c1, .int .i64 a2] rfl (by (try simp only [List.map_toArray, List.map_cons, List.map_nil]); first | done | rfl | (simp only [List.length_drop, List.length_take]; rfl)) ?_; (with_reducible refine (querylang_Reads.calls k a0_0 _ _ l0_1 _ _ l1 a2 t161 t164 _ ?side1 ?side2 ?side3 ?side4 A6.out).mono ?_); (case side1 => repeat (first | exact (Kd.C_below HR0_1.out HB.out) | (with_reducible refine Kd.C_alloc ?_ _) | (with_reducible refine Kd.C_drewN ?_ _) | (with_reducible refine Kd.C_drew ?_))); (case side2 => exact HC0_1.out); (case side3 => repeat (first | exact (Kd.C_below HR1.out HB.out) | (with_reducible refine Kd.C_alloc ?_ _) | (with_reducible refine Kd.C_drewN ?_ _) | (with_reducible refine Kd.C_drew ?_))); (case side4 => exact HC1.out); rintro e w54 ⟨v162, rfl, ho0, hb⟩; refine ⟨_, rfl, ?_⟩; have n0_ := Aside0.mk (Kd.R_lower ho0 (below_size (by repeat (first | (with_reducible first | exact HB.out | apply below_alloc | apply pw_below_drewN | apply below_drew1 | refine below_set ?_ GE159.out) | exact HB.out)))); have n1_ := Aside0.mk (blk_below (g := gb159) (o := .cells #[.int .i64 a0_0, .slice A0_1 l0_1.length c0_1] 97 (0, 0)) (by (with_reducible repeat (first | refine blk_drewN ?_ _ | refine blk_drew ?_ | refine blk_alloc ?_ _)); exact BK159.out) hb); have n2_ := Aside0.mk (below_step (by repeat (first | (with_reducible first | exact HB.out | apply below_alloc | apply pw_below_drewN | apply below_drew1 | refine below_set ?_ GE159.out) | exact HB.out)) hb); clear BK159; clear HB; have HO163 := n0_; have BK159 := n1_; have HB := n2_; clear n0_ n1_ n2_; (try clear hb); (try clear hb2); (try clear hk); (try clear hi); (try clear ho0); have hcz55_0 : w54.cell? ⟨gb159, 0, none⟩ = some (.int .i64 a0_0) := (blk_cell BK159.out 0).trans rfl; have hcz55_1 : w54.cell? ⟨gb159, 1, none⟩ = some (.slice A0_1 l0_1.length c0_1) := (blk_cell BK159.out 1).trans rfl; have hfz55_0 := blk_frozen BK159.out 0; have hfz55_1 := blk_frozen BK159.out 1) | ((with_reducible refine gate_callee (f := 60) rfl ?_); refine goesL_ (some 22) rfl rfl Try.func60 (by kernel_rfl) rfl #[.agg #[.int .i64 a0_0, .slice A0_1 l0_1.length c0_1], .slice A1 l1.length c1, .int .i64 a2] rfl (by (try simp only [List.map_toArray, List.map_cons, List.map_nil]); first | done | rfl | (simp only [List.length_drop, List.length_take]; rfl)) ?_; (with_reducible refine (glossatorlaw3_evalError.calls k a0_0 _ _ l0_1 _ _ l1 a2 t165 _ ?side1 ?side2 ?side3 ?side4 A7.out).mono ?_); (case side1 => repeat (first | exact (Kd.C_below HR0_1.out HB.out) | (with_reducible refine Kd.C_alloc ?_ _) | (with_reducible refine Kd.C_drewN ?_ _) | (with_reducible refine Kd.C_drew ?_))); (case side2 => exact HC0_1.out); (case side3 => repeat (first | exact (Kd.C_below HR1.out HB.out) | (with_reducible refine Kd.C_alloc ?_ _) | (with_reducible refine Kd.C_drewN ?_ _) | (with_reducible refine Kd.C_drew ?_))); (case side4 => exact HC1.out); rintro e w56 ⟨rfl, hb⟩; refine ⟨_, rfl, ?_⟩; have n0_ := Aside0.mk (Kd.R_below (by (with_reducible repeat (first | apply Kd.R_alloc | apply Kd.R_drewN | apply Kd.R_drew)); exact HO163.out) hb); have n1_ := Aside0.mk (blk_below (g := gb159) (o := .cells #[.int .i64 a0_0, .slice A0_1 l0_1.length c0_1] 97 (0, 0)) (by (with_reducible repeat (first | refine blk_drewN ?_ _ | refine blk_drew ?_ | refine blk_alloc ?_ _)); exact BK159.out) hb); have n2_ := Aside0.mk (below_step (by repeat (first | (with_reducible first | exact HB.out | apply below_alloc | apply pw_below_drewN | apply below_drew1 | refine below_set ?_ GE159.out) | exact HB.out)) hb); clear HO163; clear BK159; clear HB; have HO163 := n0_; have BK159 := n1_; have HB := n2_; clear n0_ n1_ n2_; (try clear hb); (try clear hb2); (try clear hk); (try clear hi)) | ((with_reducible refine gate_callee (f := 56) rfl ?_); refine goesL_ (some 25) rfl rfl Try.func56 (by kernel_rfl) rfl #[] rfl (by (try simp only [List.map_toArray, List.map_cons, List.map_nil]); first | done | rfl | (simp only [List.length_drop, List.length_take]; rfl)) ?_; (with_reducible refine (glossatorlaw3_queryExample.calls k  true _ A40.out).mono ?_); rintro e w57 ⟨rfl, hb⟩; refine ⟨_, rfl, ?_⟩; have n0_ := Aside0.mk (Kd.R_below (by (with_reducible repeat (first | apply Kd.R_alloc | apply Kd.R_drewN | apply Kd.R_drew)); exact HO163.out) hb); have n1_ := Aside0.mk (blk_below (g := gb159) (o := .cells #[.int .i64 a0_0, .slice A0_1 l0_1.length c0_1] 97 (0, 0)) (by (with_reducible repeat (first | refine blk_drewN ?_ _ | refine blk_drew ?_ | refine blk_alloc ?_ _)); exact BK159.out) hb); have n2_ := Aside0.mk (below_step (by repeat (first | (with_reducible first | exact HB.out | apply below_alloc | apply pw_below_drewN | apply below_drew1 | refine below_set ?_ GE159.out) | exact HB.out)) hb); clear HO163; clear BK159; clear HB; have HO163 := n0_; have BK159 := n1_; have HB := n2_; clear n0_ n1_ n2_; (try clear hb); (try clear hb2); (try clear hk); (try clear hi)))
     go_ret
     exact ⟨by first | rfl | (simp [errW_none, errW_some] <;> rfl) | (simp [*, errW_none, errW_some] <;> rfl), by repeat (first | (with_reducible first | exact HB.out | apply below_alloc | apply pw_below_drewN | apply below_drew1 | refine below_set ?_ GE159.out) | exact HB.out)⟩
   ·replace c41 := Bool.eq_false_iff.mpr c41
    subst c41
    have H1 : (some false) = some r := by rw [if_neg (show ¬ (false = true) by decide)] at H; exact H
    clear H
    have H := H1
    clear H1
    obtain rfl := Option.some.inj H
    go_enter Try.func14, Try.ntmps14
    go_wp2_with (first | ((with_reducible refine gate_dst (N := 3) rfl ?_); (try (refine gate_guard (by rfl) ?_; dsimp only)); refine box_event ?hg (N := 3) ?hd (cs := #[.int .i64 a0_0, .slice A0_1 l0_1.length c0_1]) (t := 97) ?hr ?_; (case hd => rfl); (case hg => rfl); (case hr => first | (go_simp; done) | (go_simp; rfl)); intro gb159 hg w58 hbox hb; have n0_ := Aside0.mk (below_step (by repeat (first | (with_reducible first | exact HB.out | apply below_alloc | apply pw_below_drewN | apply below_drew1) | exact HB.out)) hb); have n1_ := Aside0.mk (hbox); have n2_ := Aside0.mk ((by rw [hg]; exact (below_size (by repeat (first | (with_reducible first | exact HB.out | apply below_alloc | apply pw_below_drewN | apply below_drew1) | exact HB.out))) : w.heap.size ≤ gb159)); have n3_ := Aside0.mk ((by rw [hg]; exact (below_size (by repeat (first | (with_reducible first | exact HB.out | apply below_alloc | apply pw_below_drewN | apply below_drew1) | exact HB.out))) : w.heap.size ≤ gb159)); clear HB; have HB := n0_; have BK159 := n1_; have GW159 := n2_; have GE159 := n3_; clear n0_ n1_ n2_ n3_; clear hb hbox hg) | ((with_reducible refine gate_callee (f := 56) rfl ?_); refine goesL_ (some 10) rfl rfl Try.func56 (by kernel_rfl) rfl #[] rfl (by (try simp only [List.map_toArray, List.map_cons, List.map_nil]); first | done | rfl | (simp only [List.length_drop, List.length_take]; rfl)) ?_; (with_reducible refine (glossatorlaw3_queryExample.calls k  true _ A4.out).mono ?_); rintro e w59 ⟨rfl, hb⟩; refine ⟨_, rfl, ?_⟩; have n0_ := Aside0.mk (blk_below (g := gb159) (o := .cells #[.int .i64 a0_0, .slice A0_1 l0_1.length c0_1] 97 (0, 0)) (by (with_reducible repeat (first | refine blk_drewN ?_ _ | refine blk_drew ?_ | refine blk_alloc ?_ _)); exact BK159.out) hb); have n1_ := Aside0.mk (below_step (by repeat (first | (with_reducible first | exact HB.out | apply below_alloc | apply pw_below_drewN | apply below_drew1 | refine below_set ?_ GE159.out) | exact HB.out)) hb); clear BK159; clear HB; have BK159 := n0_; have HB := n1_; clear n0_ n1_; (try clear hb); (try clear hb2); (try clear hk); (try clear hi); have hcz60_0 : w59.cell? ⟨gb159, 0, none⟩ = some (.int .i64 a0_0) := (blk_cell BK159.out 0).trans rfl; have hcz60_1 : w59.cell? ⟨gb159, 1, none⟩ = some (.slice A0_1 l0_1.length c0_1) := (blk_cell BK159.out 1).trans rfl; have hfz60_0 := blk_frozen BK159.out 0; have hfz60_1 := blk_frozen BK159.out 1) | ((with_reducible refine gate_callee (f := 75) rfl ?_); refine goesL_ (some 16) rfl rfl Try.func75 (by kernel_rfl) rfl #[.agg #[.int .i64 a0_0, .slice A0_1 l0_1.length c0_1], .slice A1 l1.length c1, .int .i64 a2] rfl (by (try simp only [List.map_toArray, List.map_cons, List.map_nil]); first | done | rfl | (simp only [List.length_drop, List.length_take]; rfl)) ?_; (with_reducible refine (querylang_Reads.calls k a0_0 _ _ l0_1 _ _ l1 a2 t161 t164 _ ?side1 ?side2 ?side3 ?side4 A6.out).mono ?_); (case side1 => repeat (first | exact (Kd.C_below HR0_1.out HB.out) | (with_reducible refine Kd.C_alloc ?_ _) | (with_reducible refine Kd.C_drewN ?_ _) | (with_reducible refine Kd.C_drew ?_))); (case side2 => exact HC0_1.out); (case side3 => repeat (first | exact (Kd.C_below HR1.out HB.out) | (with_reducible refine Kd.C_alloc ?_ _) | (with_reducible refine Kd.C_drewN ?_ _) | (with_reducible refine Kd.C_drew ?_))); (case side4 => exact HC1.out); rintro e w61 ⟨v162, rfl, ho0, hb⟩; refine ⟨_, rfl, ?_⟩; have n0_ := Aside0.mk (Kd.R_lower ho0 (below_size (by repeat (first | (with_reducible first | exact HB.out | apply below_alloc | apply pw_below_drewN | apply below_drew1 | refine below_set ?_ GE159.out) | exact HB.out)))); have n1_ := Aside0.mk (blk_below (g := gb159) (o := .cells #[.int .i64 a0_0, .slice A0_1 l0_1.length c0_1] 97 (0, 0)) (by (with_reducible repeat (first | refine blk_drewN ?_ _ | refine blk_drew ?_ | refine blk_alloc ?_ _)); exact BK159.out) hb); have n2_ := Aside0.mk (below_step (by repeat (first | (with_reducible first | exact HB.out | apply below_alloc | apply pw_below_drewN | apply below_drew1 | refine below_set ?_ GE159.out) | exact HB.out)) hb); clear BK159; clear HB; have HO163 := n0_; have BK159 := n1_; have HB := n2_; clear n0_ n1_ n2_; (try clear hb); (try clear hb2); (try clear hk); (try clear hi); (try clear ho0); have hcz62_0 : w61.cell? ⟨gb159, 0, none⟩ = some (.int .i64 a0_0) := (blk_cell BK159.out 0).trans rfl; have hcz62_1 : w61.cell? ⟨gb159, 1, none⟩ = some (.slice A0_1 l0_1.length c0_1) := (blk_cell BK159.out 1).trans rfl; have hfz62_0 := blk_frozen BK159.out 0; have hfz62_1 := blk_frozen BK159.out 1) | ((with_reducible refine gate_callee (f := 60) rfl ?_); refine goesL_ (some 22) rfl rfl Try.func60 (by kernel_rfl) rfl #[.agg #[.int .i64 a0_0, .slice A0_1 l0_1.length c0_1], .slice A1 l1.length c1, .int .i64 a2] rfl (by (try simp only [List.map_toArray, List.map_cons, List.map_nil]); first | done | rfl | (simp only [List.length_drop, List.length_take]; rfl)) ?_; (with_reducible refine (glossatorlaw3_evalError.calls k a0_0 _ _ l0_1 _ _ l1 a2 t165 _ ?side1 ?side2 ?side3 ?side4 A7.out).mono ?_); (case side1 => repeat (first | exact (Kd.C_below HR0_1.out HB.out) | (with_reducible refine Kd.C_alloc ?_ _) | (with_reducible refine Kd.C_drewN ?_ _) | (with_reducible refine Kd.C_drew ?_))); (case side2 => exact HC0_1.out); (case side3 => repeat (first | exact (Kd.C_below HR1.out HB.out) | (with_reducible refine Kd.C_alloc ?_ _) | (with_reducible refine Kd.C_drewN ?_ _) | (with_reducible refine Kd.C_drew ?_))); (case side4 => exact HC1.out); rintro e w63 ⟨rfl, hb⟩; refine ⟨_, rfl, ?_⟩; have n0_ := Aside0.mk (Kd.R_below (by (with_reducible repeat (first | apply Kd.R_alloc | apply Kd.R_drewN | apply Kd.R_drew)); exact HO163.out) hb); have n1_ := Aside0.mk (blk_below (g := gb159) (o := .cells #[.int .i64 a0_0, .slice A0_1 l0_1.length c0_1] 97 (0, 0)) (by (with_reducible repeat (first | refine blk_drewN ?_ _ | refine blk_drew ?_ | refine blk_alloc ?_ _)); exact BK159.out) hb); have n2_ := Aside0.mk (below_step (by repeat (first | (with_reducible first | exact HB.out | apply below_alloc | apply pw_below_drewN | apply below_drew1 | refine below_set ?_ GE159.out) | exact HB.out)) hb); clear HO163; clear BK159; clear HB; have HO163 := n0_; have BK159 := n1_; have HB := n2_; clear n0_ n1_ n2_; (try clear hb); (try clear hb2); (try clear hk); (try clear hi)) | ((with_reducible refine gate_callee (f := 56) rfl ?_); refine goesL_ (some 25) rfl rfl Try.func56 (by kernel_rfl) rfl #[] rfl (by (try simp only [List.map_toArray, List.map_cons, List.map_nil]); first | done | rfl | (simp only [List.length_drop, List.length_take]; rfl)) ?_; (with_reducible refine (glossatorlaw3_queryExample.calls k  false _ A40.out).mono ?_); rintro e w64 ⟨rfl, hb⟩; refine ⟨_, rfl, ?_⟩; have n0_ := Aside0.mk (Kd.R_below (by (with_reducible repeat (first | apply Kd.R_alloc | apply Kd.R_drewN | apply Kd.R_drew)); exact HO163.out) hb); have n1_ := Aside0.mk (blk_below (g := gb159) (o := .cells #[.int .i64 a0_0, .slice A0_1 l0_1.length c0_1] 97 (0, 0)) (by (with_reducible repeat (first | refine blk_drewN ?_ _ | refine blk_drew ?_ | refine blk_alloc ?_ _)); exact BK159.out) hb); have n2_ := Aside0.mk (below_step (by repeat (first | (with_reducible first | exact HB.out | apply below_alloc | apply pw_below_drewN | apply below_drew1 | refine below_set ?_ GE159.out) | exact HB.out)) hb); clear HO163; clear BK159; clear HB; have HO163 := n0_; have BK159 := n1_; have HB := n2_; clear n0_ n1_ n2_; (try clear hb); (try clear hb2); (try clear hk); (try clear hi)))
    go_ret
    exact ⟨by first | rfl | (simp [errW_none, errW_some] <;> rfl) | (simp [*, errW_none, errW_some] <;> rfl), by repeat (first | (with_reducible first | exact HB.out | apply below_alloc | apply pw_below_drewN | apply below_drew1 | refine below_set ?_ GE159.out) | exact HB.out)⟩
 ·replace c5 := Bool.eq_false_iff.mpr c5
  subst c5
  have H1 : (some false) = some r := by rw [if_neg (show ¬ (false = true) by decide)] at H; exact H
  clear H
  have H := H1
  clear H1
  obtain rfl := Option.some.inj H
  go_enter Try.func14, Try.ntmps14
  go_wp2_with (first | ((with_reducible refine gate_dst (N := 3) rfl ?_); (try (refine gate_guard (by rfl) ?_; dsimp only)); refine box_event ?hg (N := 3) ?hd (cs := #[.int .i64 a0_0, .slice A0_1 l0_1.length c0_1]) (t := 97) ?hr ?_; (case hd => rfl); (case hg => rfl); (case hr => first | (go_simp; done) | (go_simp; rfl)); intro gb159 hg w65 hbox hb; have n0_ := Aside0.mk (below_step (by repeat (first | (with_reducible first | exact HB.out | apply below_alloc | apply pw_below_drewN | apply below_drew1) | exact HB.out)) hb); have n1_ := Aside0.mk (hbox); have n2_ := Aside0.mk ((by rw [hg]; exact (below_size (by repeat (first | (with_reducible first | exact HB.out | apply below_alloc | apply pw_below_drewN | apply below_drew1) | exact HB.out))) : w.heap.size ≤ gb159)); have n3_ := Aside0.mk ((by rw [hg]; exact (below_size (by repeat (first | (with_reducible first | exact HB.out | apply below_alloc | apply pw_below_drewN | apply below_drew1) | exact HB.out))) : w.heap.size ≤ gb159)); clear HB; have HB := n0_; have BK159 := n1_; have GW159 := n2_; have GE159 := n3_; clear n0_ n1_ n2_ n3_; clear hb hbox hg) | ((with_reducible refine gate_callee (f := 56) rfl ?_); refine goesL_ (some 10) rfl rfl Try.func56 (by kernel_rfl) rfl #[] rfl (by (try simp only [List.map_toArray, List.map_cons, List.map_nil]); first | done | rfl | (simp only [List.length_drop, List.length_take]; rfl)) ?_; (with_reducible refine (glossatorlaw3_queryExample.calls k  false _ A4.out).mono ?_); rintro e w66 ⟨rfl, hb⟩; refine ⟨_, rfl, ?_⟩; have n0_ := Aside0.mk (blk_below (g := gb159) (o := .cells #[.int .i64 a0_0, .slice A0_1 l0_1.length c0_1] 97 (0, 0)) (by (with_reducible repeat (first | refine blk_drewN ?_ _ | refine blk_drew ?_ | refine blk_alloc ?_ _)); exact BK159.out) hb); have n1_ := Aside0.mk (below_step (by repeat (first | (with_reducible first | exact HB.out | apply below_alloc | apply pw_below_drewN | apply below_drew1 | refine below_set ?_ GE159.out) | exact HB.out)) hb); clear BK159; clear HB; have BK159 := n0_; have HB := n1_; clear n0_ n1_; (try clear hb); (try clear hb2); (try clear hk); (try clear hi)))
  go_ret
  exact ⟨by first | rfl | (simp [errW_none, errW_some] <;> rfl) | (simp [*, errW_none, errW_some] <;> rfl), by repeat (first | (with_reducible first | exact HB.out | apply below_alloc | apply pw_below_drewN | apply below_drew1 | refine below_set ?_ GE159.out) | exact HB.out)⟩

end Go.Proofs.Ytbfedkmiekbcmaa.QQuerylangReads
