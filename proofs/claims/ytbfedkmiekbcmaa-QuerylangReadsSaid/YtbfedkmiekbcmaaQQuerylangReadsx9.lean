-- slim
-- Written by gen.py (this repo's wip/), which runs the kit's print.py with more arms. Lean checks it.
import Derived.Test.YtbfedkmiekbcmaaQQuerylangReadsx0
import Derived.Test.YtbfedkmiekbcmaaQQuerylangReadsx1
import Derived.Test.YtbfedkmiekbcmaaQQuerylangReadsx2
import Derived.Test.YtbfedkmiekbcmaaQQuerylangReadsx6
namespace Go.Proofs.Ytbfedkmiekbcmaa.QQuerylangReads
open Go.RowKit Go.Proofs.YtbfedkmiekbcmaaW.PrintWords Go.Proofs.YtbfedkmiekbcmaaW.PrintLast Go.Proofs.YtbfedkmiekbcmaaW.PrintMore
attribute [local go_sem] max2_int min2_int max_two min_two max_three min_three max_four min_four   -- for this text's walks alone
set_option linter.unusedVariables false
set_option linter.unusedSimpArgs false

private theorem isEmpty_bne {α : Type} [BEq α] (l : List α) : (l != []) = !l.isEmpty := by cases l <;> rfl

attribute [local go_sem high] eqA44
section
open Go.Proofs.Ytbfedkmiekbcmaa.Hand
theorem info_44 : (Try.prog.info? 44).map (fun i => (i.zero, i.size, i.bytes)) = some (some (.agg #[.int .i64 0, .int .i64 0, .int .i64 0]), 3, 24) := by kernel_rfl
/-- The keys so far, and one more, if it is new. -/
def addKey (c : Bool) (keys : List S44) (x : S44) : Option (List S44) := if c = true then some keys else if keys.length < 5864062014805 then some (keys ++ [x]) else none
def readsG (kf : Nat) (ins : List Int) (qs : List (List S166)) (d : Nat) (keys : List S44) (k1 k2 k3 : Int) : Option (Int × List S44) :=
 (api_QKey_125.f kf keys k1 k2 k3).bind fun c => (addKey c keys ⟨k1, k2, k3⟩).bind fun keys' => (getP kf ins qs d k1 k2).map (fun n => (n, keys'))
/-- The keys' variable, the evaluator's, the evaluator. -/
def RdI (kf : Nat) (a0 : Int) (AQ : Option Addr) (cq : Nat) (qs : List (List S166)) (AI : Option Addr) (ci : Nat) (ins : List Int) (w0 : World) (mb eb evb kb : Nat) (keys : List S44) (S : Nat → Prop) (W : World) : Prop :=
 ∃ v, (∀ k, S k ↔ k = kb ∨ k = mb ∨ v.ownBlock = some k) ∧ W.heap[kb]? = some (.cells #[v] 35 (0, 0)) ∧ Kd.R k44 44 W (kb + 1) (fun k => some k = v.ownBlock) v keys ∧ W.heap[evb]? = some (.cells #[.pointer (some ⟨eb, 0, none⟩)] 173 (0, 0)) ∧
  EvI kf a0 AQ cq qs AI ci ins w0 mb eb () (fun k => k = mb) W ∧ eb < evb ∧ evb < kb
section
variable {kf : Nat} {a0 : Int} {AQ : Option Addr} {cq : Nat} {qs : List (List S166)} {AI : Option Addr} {ci : Nat} {ins : List Int} {w0 : World} {mb eb evb kb : Nat}
theorem rd_keep {keys S W W'} (h : RdI kf a0 AQ cq qs AI ci ins w0 mb eb evb kb keys S W) (hc : Chg (fun k => ¬ S k ∧ kb + 1 ≤ k) W W') : RdI kf a0 AQ cq qs AI ci ins w0 mb eb evb kb keys S W' := by
 obtain ⟨v, h1, h2, h3, h4, h5, h6, h7⟩ := h
 refine ⟨v, h1, hc.at h2 (fun e => by omega), ?_, hc.at h4 (fun e => by omega), ev_keep h5 (hc.mono (fun k _ e => ⟨fun e2 => e.1 ((h1 k).2 (.inr (.inl e2))), by omega⟩)), h6, h7⟩
 exact Kd.R_step h3 (fun k hk hlt => hc.block k hlt (fun e => e.1 ((h1 k).2 (.inr (.inr hk.symm)))))
theorem k44_E : k44.E = [] := rfl
set_option maxRecDepth 100000 in
set_option maxHeartbeats 4000000 in
theorem reads1_calls (hq : Kd.C (Kd.slice 166 k166) w0 AQ qs.length qs) (hcq : qs.length ≤ cq) (hi : Kd.C (Kd.int .i64) w0 AI ins.length ins) (hci : ins.length ≤ ci) (d : Nat) {k1 k2 k3 n : Int} {keys keys' : List S44} {S : Nat → Prop} {W : World}
  (h : readsG kf ins qs d keys k1 k2 k3 = some (n, keys')) (hI : RdI kf a0 AQ cq qs AI ci ins w0 mb eb evb kb keys S W) :
  Calls Try.prog 124 #[.agg #[.int .i64 k1, .int .i64 k2, .int .i64 k3], .pointer (some ⟨kb, 0, none⟩), .pointer (some ⟨evb, 0, none⟩)] W fun e w' => e = .returned (.int .i64 n) ∧ ∃ S', RdI kf a0 AQ cq qs AI ci ins w0 mb eb evb kb keys' S' w' ∧ Chg S W w' ∧ ∀ k, S' k → S k ∨ W.heap.size ≤ k := by
 unfold readsG at h
 obtain ⟨c, hc, h⟩ := Option.bind_eq_some_iff.1 h
 obtain ⟨ks, hks, h⟩ := Option.bind_eq_some_iff.1 h
 obtain ⟨x, hx, he⟩ := Option.map_eq_some_iff.1 h
 injection he with e1 e2
 subst e1 e2
 obtain ⟨v, hS, hkb, hv, hev, hE, h6, h7⟩ := hI
 obtain ⟨V, cv, hvs⟩ := Kd.R_slice hv
 subst hvs
 obtain ⟨_, hvc, hvr⟩ := Kd.R_reads' hv
 have hbl : Below W.heap.size W (W.alloc (.cells #[.int .i64 k1, .int .i64 k2, .int .i64 k3] 44)) := below_alloc (Below.refl _ _) _
 have HBLK := Aside0.mk (hb_new W (.cells #[.int .i64 k1, .int .i64 k2, .int .i64 k3] 44))
 have HC := Aside0.mk hc
 have HX := Aside0.mk hx
 have HS := Aside0.mk hS
 have HKB := Aside0.mk hkb
 have HV := Aside0.mk hv
 have HEV := Aside0.mk hev
 have HE := Aside0.mk hE
 have HVC := Aside0.mk hvc
 have HVR := Aside0.mk hvr
 have HBL := Aside0.mk hbl
 have HQ := Aside0.mk hq
 have HIN := Aside0.mk hi
 have HCQ := Aside0.mk hcq
 have HCI := Aside0.mk hci
 have hszk := lt_of_blk hkb
 have c1 : (W.alloc (.cells #[.int .i64 k1, .int .i64 k2, .int .i64 k3] 44)).cell? ⟨kb, 0, none⟩ = some (.slice V keys.length cv) := cell_of_blk (hb_alloc hkb)
 clear hc hx hS hkb hv hev hE hvc hvr hbl hq hi hcq hci h
 -- behind the append, or without it
 have fin : ∀ (Wc : World) (V2 : Option Addr) (c2 : Nat), Wc.heap[kb]? = some (.cells #[.slice V2 ks.length c2] 35 (0, 0)) → Kd.R k44 44 Wc (kb + 1) (fun k => some k = (Value.slice V2 ks.length c2).ownBlock) (.slice V2 ks.length c2) ks → Chg (fun k => k = kb ∨ (Value.slice V keys.length cv).ownBlock = some k) W Wc →
   ((Value.slice V2 ks.length c2).ownBlock = (Value.slice V keys.length cv).ownBlock ∨ ∃ b, (Value.slice V2 ks.length c2).ownBlock = some b ∧ W.heap.size ≤ b) →
   Wc.heap[evb]? = some (.cells #[.pointer (some ⟨eb, 0, none⟩)] 173 (0, 0)) ∧ EvI kf a0 AQ cq qs AI ci ins w0 mb eb () (fun k => k = mb) Wc ∧
   ∀ w3, EvI kf a0 AQ cq qs AI ci ins w0 mb eb () (fun k => k = mb) w3 → Chg (fun k => k = mb) Wc w3 →
    ∃ S', RdI kf a0 AQ cq qs AI ci ins w0 mb eb evb kb ks S' w3 ∧ Chg S W w3 ∧ ∀ k, S' k → S k ∨ W.heap.size ≤ k := by
  intro Wc V2 c2 g1 g2 g3 g4
  have hrow : ∀ k, (Value.slice V keys.length cv).ownBlock = some k → kb + 1 ≤ k := fun k e => Kd.R_base HV.out k e
  have hrow2 : ∀ k, (Value.slice V2 ks.length c2).ownBlock = some k → kb + 1 ≤ k := fun k e => Kd.R_base g2 k e
  have hmb : mb < eb := HE.out.2.2.2.2.2
  refine ⟨g3.at HEV.out (fun e => by rcases e with e | e; omega; have := hrow _ e; omega), ev_keep HE.out (g3.mono (fun k _ e => by rcases e with e | e; exact ⟨by omega, by omega⟩; have := hrow _ e; exact ⟨by omega, by omega⟩)), fun w3 q1 q2 => ?_⟩
  refine ⟨fun k => k = kb ∨ k = mb ∨ (Value.slice V2 ks.length c2).ownBlock = some k, ⟨.slice V2 ks.length c2, fun k => Iff.rfl, q2.at g1 (by omega), ?_, q2.at (g3.at HEV.out (fun e => by rcases e with e | e; omega; have := hrow _ e; omega)) (by omega), q1, h6, h7⟩, ?_, ?_⟩
  ·exact Kd.R_step g2 (fun k hk hlt => q2.block k hlt (by have := hrow2 k hk.symm; omega))
  ·refine (g3.mono (T := S) (fun k _ e => (HS.out k).2 ?_)).trans (q2.mono (T := S) (fun k _ e => (HS.out k).2 (.inr (.inl e)))) (fun _ _ h => h)
   rcases e with e | e
   ·exact .inl e
   ·exact .inr (.inr e)
  ·intro k hk
   rcases hk with hk | hk | hk
   ·exact .inl ((HS.out k).2 (.inl hk))
   ·exact .inl ((HS.out k).2 (.inr (.inl hk)))
   ·rcases g4 with g4 | ⟨b, g4, g5⟩
    ·rw [g4] at hk; exact .inl ((HS.out k).2 (.inr (.inr hk)))
    ·rw [g4] at hk; injection hk with hk; subst hk; exact .inr g5
 have HF := Aside0.mk fin
 clear fin
 unfold addKey at hks
 cases c with
 | true =>
  rw [if_pos rfl] at hks
  injection hks with hks
  subst hks
  go_enter Try.func124, Try.ntmps124
  go_upto_region 3 with (go_at_call 125; refine (api_QKey_125.calls kf V cv keys k1 k2 k3 true _ (Kd.C_below HVR.out HBL.out) HVC.out HC.out).mono ?_; rintro e w2 ⟨rfl, hb2⟩)
  have hbw : Below W.heap.size W w2 := HBL.out.trans (hb2.mono HBL.out.size)
  obtain ⟨f1, f2, f3⟩ := HF.out w2 V cv ((hbw.block _ (lt_of_blk HKB.out)).trans HKB.out) (Kd.R_below HV.out hbw) (Chg.of_new hbw) (.inl rfl)
  have hkey := (hb2.block _ (by simp)).trans HBLK.out
  have x0 : w2.cell? ⟨W.heap.size, 0, none⟩ = some (.int .i64 k1) := (cells_of_blk hkey 0).trans rfl
  have x1 : w2.cell? ⟨W.heap.size, 1, none⟩ = some (.int .i64 k2) := (cells_of_blk hkey 1).trans rfl
  have x2 : w2.cell? ⟨W.heap.size, 2, none⟩ = some (.int .i64 k3) := (cells_of_blk hkey 2).trans rfl
  have x3 := cell_of_blk f1
  have F2 := Aside0.mk f2
  have F3 := Aside0.mk f3
  clear hbw hb2 f1 f2 f3 hkey
  go_wp2_with (go_at_call 109; refine (get_calls kf a0 AQ cq qs AI ci ins w0 mb eb HQ.out HCQ.out HIN.out HCI.out d HX.out F2.out).mono ?_; rintro e w3 ⟨rfl, S3, hI3, hc3, hS3⟩)
  go_ret
  have hS3' : ∀ k, S3 k ↔ k = mb := hI3.1
  exact ⟨rfl, F3.out w3 ⟨fun k => Iff.rfl, hI3.2⟩ hc3⟩
 | false =>
  rw [if_neg (by simp)] at hks
  split at hks
  ·next hlim =>
   injection hks with hks
   subst hks
   have HLIM := Aside0.mk hlim
   clear hlim
   go_enter Try.func124, Try.ntmps124
   go_upto_region 2 with (go_at_call 125; refine (api_QKey_125.calls kf V cv keys k1 k2 k3 false _ (Kd.C_below HVR.out HBL.out) HVC.out HC.out).mono ?_; rintro e w2 ⟨rfl, hb2⟩)
   have hbw : Below W.heap.size W w2 := HBL.out.trans (hb2.mono HBL.out.size)
   have hkey := (hb2.block _ (by simp)).trans HBLK.out
   have hkb2 := (hbw.block _ (lt_of_blk HKB.out)).trans HKB.out
   have x0 : w2.cell? ⟨W.heap.size, 0, none⟩ = some (.int .i64 k1) := (cells_of_blk hkey 0).trans rfl
   have x1 : w2.cell? ⟨W.heap.size, 1, none⟩ = some (.int .i64 k2) := (cells_of_blk hkey 1).trans rfl
   have x2 : w2.cell? ⟨W.heap.size, 2, none⟩ = some (.int .i64 k3) := (cells_of_blk hkey 2).trans rfl
   have y0 := cell_of_blk hkb2
   have HV2 := Aside0.mk (Kd.R_mono (Kd.R_below HV.out hbw) (ok' := fun _ => True) (fun _ _ => trivial))
   have HBW := Aside0.mk hbw
   have HKB2 := Aside0.mk hkb2
   have HKEY := Aside0.mk hkey
   clear hbw hb2 hkb2 hkey
   go_upto_region 3 with (first | ((with_reducible refine gate_builtin (b := .append) (xs := #[.tmp 9, .tmp 11]) rfl ?_); at_builtin; refine Kd.R_append k44 (w0 := w2) (kb + 1) rfl (.tmp 9) (.tmp 11) 35 44 (.agg #[.int .i64 0, .int .i64 0, .int .i64 0]) 24 rfl Try.underlying35 info_44 rfl (by decide) (by omega) (.slice V keys.length cv) keys ⟨k1, k2, k3⟩ [.int .i64 k1, .int .i64 k2, .int .i64 k3] (fun _ => True) (fun _ => False) rfl rfl (k44_mkM _ _ _ ⟨k1, k2, k3⟩) (fun _ h => h.elim) (fun _ _ => trivial) HV2.out (Below.refl _ _) (lt_of_blk HKB2.out) (by have := HLIM.out; omega) ?_; intro v5 w5 ho hb hg hat; (obtain ⟨V5, c5, hv5⟩ := Kd.R_slice ho); (have hv6 := hv5); (rw [List.length_append, List.length_singleton] at hv5); subst hv5; (have hkb5 := (hb.block _ (Nat.lt_succ_self kb)).trans HKB2.out); (have s6 := cell_of_blk hkb5); (have f6 := free_of_blk hkb5 0); (have HO5 := Aside0.mk ho); (have HB5_ := Aside0.mk hb); (have HG5 := Aside0.mk hg); (have HAT := Aside0.mk hat); (have HKB5 := Aside0.mk hkb5); clear ho hb hg hat y0 hv6 hkb5))
   have hlen : keys.length + 1 = (keys ++ [(⟨k1, k2, k3⟩ : S44)]).length := by simp
   have hkey6 : (w5.setCell ⟨kb, 0, none⟩ (.slice V5 (keys.length + 1) c5)).heap[W.heap.size]? = some (.cells #[.int .i64 k1, .int .i64 k2, .int .i64 k3] 44 (0, 0)) := by
    refine hb_far ?_ (by show W.heap.size ≠ kb; omega) _
    exact (HG5.out.block _ (lt_of_blk HKEY.out) (fun e => by have := Kd.R_lt HV.out _ e.symm; omega)).trans HKEY.out
   have f := HF.out (w5.setCell ⟨kb, 0, none⟩ (.slice V5 (keys.length + 1) c5)) V5 c5 (by rw [← hlen]; exact hb_set HKB5.out 0 _)
    (by
     rw [← hlen]
     refine Kd.R_tight k44_E (Kd.R_mono (Kd.R_step (Kd.R_bound (by have := HO5.out; exact this)) (fun k hk _ => Below.heap_setCell _ _ _ _ (by have := hk.2.1; show k ≠ kb; omega))) (fun _ _ => trivial) (ok' := fun _ => True)))
    (by
     refine ((Chg.of_new HBW.out : Chg _ W w2).trans (Chg.of_grown HG5.out (fun k e => .inr e)) (fun _ _ h => h)).trans (Chg.set _ _ _ (.inl rfl)) (fun _ _ h => h))
    (by
     rw [← hlen]
     rcases HAT.out with h | ⟨b, h, hb⟩
     ·exact .inl h
     ·exact .inr ⟨b, h, Nat.le_trans HBW.out.size hb⟩)
   obtain ⟨f1, f2, f3⟩ := f
   have F1 := Aside0.mk f1
   have F2 := Aside0.mk f2
   have F3 := Aside0.mk f3
   have x0' : (w5.setCell ⟨kb, 0, none⟩ (.slice V5 (keys.length + 1) c5)).cell? ⟨W.heap.size, 0, none⟩ = some (.int .i64 k1) := (cells_of_blk hkey6 0).trans rfl
   have x1' : (w5.setCell ⟨kb, 0, none⟩ (.slice V5 (keys.length + 1) c5)).cell? ⟨W.heap.size, 1, none⟩ = some (.int .i64 k2) := (cells_of_blk hkey6 1).trans rfl
   have x2' : (w5.setCell ⟨kb, 0, none⟩ (.slice V5 (keys.length + 1) c5)).cell? ⟨W.heap.size, 2, none⟩ = some (.int .i64 k3) := (cells_of_blk hkey6 2).trans rfl
   have x3' := cell_of_blk F1.out
   clear f1 f2 f3 hkey6 hlen x0 x1 x2 s6 f6
   generalize w5.setCell ⟨kb, 0, none⟩ (.slice V5 (keys.length + 1) c5) = w6 at *
   go_wp2_with (go_at_call 109; refine (get_calls kf a0 AQ cq qs AI ci ins w0 mb eb HQ.out HCQ.out HIN.out HCI.out d HX.out F2.out).mono ?_; rintro e w3 ⟨rfl, S3, hI3, hc3, hS3⟩)
   go_ret
   exact ⟨rfl, F3.out w3 ⟨fun k => Iff.rfl, hI3.2⟩ hc3⟩
  ·cases hks
end

theorem reads_oracle {kf : Nat} {a0 : Int} {AQ : Option Addr} {cq : Nat} {qs : List (List S166)} {AI : Option Addr} {ci : Nat} {ins : List Int} {w0 : World} {mb eb evb kb : Nat} (hq : Kd.C (Kd.slice 166 k166) w0 AQ qs.length qs) (hcq : qs.length ≤ cq) (hi : Kd.C (Kd.int .i64) w0 AI ins.length ins) (hci : ins.length ≤ ci) (d : Nat) :
  Oracle (kb + 1) 124 #[] #[.pointer (some ⟨kb, 0, none⟩), .pointer (some ⟨evb, 0, none⟩)] (readsG kf ins qs d) (RdI kf a0 AQ cq qs AI ci ins w0 mb eb evb kb) where
 lt := fun {s S W k} h hk => by
  obtain ⟨v, h1, h2, h3, h4, h5, h6, h7⟩ := h
  rcases (h1 k).1 hk with e | e | e
  ·subst e; exact lt_of_blk h2
  ·subst e; obtain ⟨m, h8, _⟩ := h5.2.2.1; exact h8.lt
  ·exact Kd.R_lt h3 _ e
 keep := fun h hc => rd_keep h hc
 enters := fun args w => enters_ Try.func124 (by kernel_rfl) rfl args w
 goes := fun {s S W k1 k2 k3 n s'} h hg => reads1_calls hq hcq hi hci d hg h
/-- What Reads answers. -/
def querylang_Reads.f (k : Nat) (a0 : Int) (qs : List (List S166)) (ins : List Int) (q : Int) : Option (List S44 × Int) :=
 (newEvP k a0 qs ins q).bind fun c => if c = 0 then (if 0 ≤ q then (if q < (qs.length : Int) then (runL (readsG k ins qs k) k q (rdq qs q) [] []).map (fun r => (r.2, 0)) else none) else none) else some ([], c)
theorem readsG_mono {kf : Nat} {ins : List Int} {qs : List (List S166)} {d : Nat} (s : List S44) (a b c : Int) (r : Int × List S44) (h : readsG kf ins qs d s a b c = some r) : readsG (kf + 1) ins qs (d + 1) s a b c = some r := by
 unfold readsG at h ⊢
 obtain ⟨x, hx, h⟩ := Option.bind_eq_some_iff.1 h
 obtain ⟨y, hy, h⟩ := Option.bind_eq_some_iff.1 h
 obtain ⟨z, hz, h⟩ := Option.map_eq_some_iff.1 h
 rw [api_QKey_125.mono _ _ _ _ _ _ hx, Option.bind_some, hy, Option.bind_some, getP_mono _ _ _ (getP_mono2 _ _ _ hz)]
 exact congrArg some h
theorem querylang_Reads.mono : ∀ a0 a1 a2 a3 k, LeO (querylang_Reads.f k a0 a1 a2 a3) (querylang_Reads.f (k + 1) a0 a1 a2 a3) := by
 intro a0 a1 a2 a3 k
 unfold querylang_Reads.f
 refine LeO.bind (newEvP_mono _ _ _ _ _) (fun c => ?_)
 refine LeO.ite (LeO.ite (LeO.ite ?_ (LeO.refl _)) (LeO.refl _)) (LeO.refl _)
 intro r h
 obtain ⟨x, hx, rfl⟩ := Option.map_eq_some_iff.1 h
 rw [runL_mono2 (runL_mono (fun s a b c r hg => readsG_mono s a b c r hg) hx)]
 rfl
set_option maxRecDepth 100000 in
set_option maxHeartbeats 4000000 in
theorem querylang_Reads.calls (k : Nat) (a0_0 : Int) (A0_1 : Option Addr) (c0_1 : Nat) (l0_1 : List (List (S166))) (A1 : Option Addr) (c1 : Nat) (l1 : List Int) (a2 : Int) (r1 : List S44) (r2 : Int) (w : World) (hr0_1 : Kd.C (Kd.slice 166 k166) w A0_1 l0_1.length l0_1) (hc0_1 : l0_1.length ≤ c0_1) (hr1 : Kd.C (Kd.int .i64) w A1 l1.length l1) (hc1 : l1.length ≤ c1) (h : querylang_Reads.f k a0_0 l0_1 l1 a2 = some (r1, r2)) :
  Calls Try.prog 75 #[.agg #[.int .i64 a0_0, .slice A0_1 l0_1.length c0_1], .slice A1 l1.length c1, .int .i64 a2] w fun e w' => ∃ v0_ : Value, e = .returned (.tuple #[v0_, .int .i64 r2]) ∧ Kd.R k44 44 w' w.heap.size (fun _ => True) v0_ r1 ∧ Below w.heap.size w w' := by
 unfold querylang_Reads.f at h
 obtain ⟨c, hc, h⟩ := Option.bind_eq_some_iff.1 h
 have HQ := Aside0.mk hr0_1
 have HCQ := Aside0.mk hc0_1
 have HI := Aside0.mk hr1
 have HCI := Aside0.mk hc1
 have HC := Aside0.mk hc
 have hbx : Below w.heap.size w (w.alloc (.cells #[.int .i64 a0_0, .slice A0_1 l0_1.length c0_1] 97)) := below_alloc (Below.refl _ _) _
 have HBX := Aside0.mk hbx
 have HPB := Aside0.mk (hb_new w (.cells #[.int .i64 a0_0, .slice A0_1 l0_1.length c0_1] 97))
 have hlen := hr0_1.2.1
 clear hr0_1 hc0_1 hr1 hc1 hc hbx
 by_cases e0 : c = 0
 ·subst e0
  rw [if_pos rfl] at h
  split at h
  ·next q0 =>
   split at h
   ·next q1 =>
    obtain ⟨⟨n, ks⟩, hn, he⟩ := Option.map_eq_some_iff.1 h
    injection he with h1 h2
    subst h1 h2
    have HN := Aside0.mk hn
    have HQ0 := Aside0.mk q0
    have HQ1 := Aside0.mk q1
    have p1 := eq_true q0
    have p2 := eq_true q1
    clear h hn q0 q1
    go_enter Try.func75, Try.ntmps75
    go_upto_region 4 with (go_at_call 108; refine (newEv_calls k k a0_0 A0_1 c0_1 l0_1 A1 c1 l1 a2 0 _ (Kd.C_below HQ.out HBX.out) HCQ.out (Kd.C_below HI.out HBX.out) HCI.out HC.out).mono ?_; rintro e w2 ⟨hb2, ⟨hx, _⟩ | ⟨_, mb, eb, rfl, hev⟩⟩; (exact absurd rfl hx); (have HB2 := Aside0.mk hb2); (have HEV := Aside0.mk hev); clear hb2 hev)
    obtain ⟨ad, AO, co, hA, hx, hlo, hro⟩ := at_q (Kd.C_below HQ.out HBX.out) a2 HQ0.out HQ1.out
    obtain ⟨q, hqq⟩ : ∃ q, rdq l0_1 a2 = q := ⟨_, rfl⟩
    rw [hqq] at hx hlo hro
    have HN2 : Aside0 (runL (readsG k l1 l0_1 k) k a2 q [] [] = some (n, ks)) := by rw [← hqq]; exact HN
    subst hA
    have hp2 := (HB2.out.block _ (by rw [World.size_alloc]; omega)).trans HPB.out
    have x1 : w2.cell? ⟨w.heap.size, 1, none⟩ = some (.slice (some ad) l0_1.length c0_1) := (cells_of_blk hp2 1).trans rfl
    have x2 : w2.cell? (ad.add a2.toNat) = some (.slice AO q.length co) := pw_cell_below HB2.out hx
    have HRO := Aside0.mk hro
    have HLO := Aside0.mk hlo
    clear hro hlo hx hp2 hqq HN
    have hQ0 := Kd.C_below HQ.out HBX.out
    have hI0 := Kd.C_below HI.out HBX.out
    have hmb : (w.alloc (.cells #[.int .i64 a0_0, .slice (some ad) l0_1.length c0_1] 97)).heap.size ≤ mb := HEV.out.2.2.2.2.1
    have heb := lt_of_blk HEV.out.2.1
    have hmbe : mb < eb := HEV.out.2.2.2.2.2
    have hbel2 : Below (w.alloc (.cells #[.int .i64 a0_0, .slice (some ad) l0_1.length c0_1] 97)).heap.size (w.alloc (.cells #[.int .i64 a0_0, .slice (some ad) l0_1.length c0_1] 97)) ((w2.alloc (.cells #[.pointer (some ⟨eb, 0, none⟩)] 173)).alloc (.cells #[.slice none 0 0] 35)) := below_alloc (below_alloc HB2.out _) _
    have hRI : RdI k a0_0 (some ad) c0_1 l0_1 A1 c1 l1 (w.alloc (.cells #[.int .i64 a0_0, .slice (some ad) l0_1.length c0_1] 97)) mb eb w2.heap.size (w2.heap.size + 1) [] (fun j => j = w2.heap.size + 1 ∨ j = mb ∨ (Value.slice none 0 0).ownBlock = some j) ((w2.alloc (.cells #[.pointer (some ⟨eb, 0, none⟩)] 173)).alloc (.cells #[.slice none 0 0] 35)) := by
     refine ⟨.slice none 0 0, fun j => Iff.rfl, ?_, Kd.R_nil _ _ _ _ _, hb_alloc (hb_new _ _), ?_, heb, by omega⟩
     ·have := hb_new (w2.alloc (.cells #[.pointer (some ⟨eb, 0, none⟩)] 173)) (.cells #[.slice none 0 0] 35)
      rw [World.size_alloc] at this
      exact this
     ·exact ev_keep HEV.out ((Chg.alloc _ _).trans (Chg.alloc _ _) (fun _ _ h => h))
    have HRI := Aside0.mk hRI
    have HQ0' := Aside0.mk hQ0
    have HI0' := Aside0.mk hI0
    have HMB := Aside0.mk hmb
    have HBEL2 := Aside0.mk hbel2
    have hMBE : mb < w2.heap.size := by omega
    clear hRI hQ0 hI0 hmb hbel2 hmbe heb h
    go_upto_region 5 with (fail)
    have hb22 : Below w2.heap.size w2 ((w2.alloc (.cells #[.pointer (some ⟨eb, 0, none⟩)] 173)).alloc (.cells #[.slice none 0 0] 35)) := below_alloc (below_alloc (Below.refl _ _) _) _
    have hsz : ((w2.alloc (.cells #[.pointer (some ⟨eb, 0, none⟩)] 173)).alloc (.cells #[.slice none 0 0] 35)).heap.size = w2.heap.size + 2 := by rw [World.size_alloc, World.size_alloc]
    have x1' := pw_cell_below hb22 x1
    have x2' := pw_cell_below hb22 x2
    have HSZ := Aside0.mk hsz
    clear x1 x2 hb22 hsz
    generalize (w2.alloc (.cells #[.pointer (some ⟨eb, 0, none⟩)] 173)).alloc (.cells #[.slice none 0 0] 35) = W2 at *
    go_upto_region 6 with (go_at_call 123; refine (run_calls (reads_oracle HQ0'.out HCQ.out HI0'.out HCI.out k) k AO co q a2 [] ks n _ _ (fun W' hc => ?hops) HLO.out HRI.out ?hlt ?hB HN2.out).mono ?_; (case hops => exact Kd.C_below HRO.out (HBEL2.out.trans (hc.to_below (fun j _ e => by rcases e with e | e | e; (have := HB2.out.size; omega); (have := HMB.out; omega); cases e) HBEL2.out.size))); (case hlt => intro j e; rw [HSZ.out]; rcases e with e | e | e; omega; omega; cases e); (case hB => rw [HSZ.out]; omega); rintro e w3 ⟨rfl, S3, hI3, hc3, hS3⟩; obtain ⟨v3, hS, hk3, hv3, _⟩ := hI3; (have x3 := cell_of_blk hk3); (have HV3 := Aside0.mk hv3); (have HC3 := Aside0.mk hc3); clear hS hk3 hv3 hc3 hS3)
    go_wp2
    go_ret2
    have hsz2 := HB2.out.size
    rw [World.size_alloc] at hsz2
    refine ⟨v3, rfl, Kd.R_mono (Kd.R_lower HV3.out (by omega)) (fun _ _ => trivial), ?_⟩
    refine HBX.out.trans ((HBEL2.out.trans (HC3.out.to_below (fun j _ e => ?_) HBEL2.out.size)).mono HBX.out.size)
    rw [World.size_alloc]
    have := HMB.out
    rw [World.size_alloc] at this
    rcases e with e | e | e
    ·omega
    ·omega
    ·cases e
   ·cases h
  ·cases h
 ·rw [if_neg e0] at h
  injection h with h
  injection h with h1 h2
  subst h1 h2
  have b0 : (c != 0) = true := by simp [e0]
  have HE0 := Aside0.mk e0
  clear e0
  go_enter Try.func75, Try.ntmps75
  go_wp2_with (go_at_call 108; refine (newEv_calls k k a0_0 A0_1 c0_1 l0_1 A1 c1 l1 a2 c _ (Kd.C_below HQ.out HBX.out) HCQ.out (Kd.C_below HI.out HBX.out) HCI.out HC.out).mono ?_; rintro e w2 ⟨hb2, ⟨_, rfl⟩ | ⟨hx, _⟩⟩; rotate_left; (exact absurd hx HE0.out))
  go_ret2
  exact ⟨.slice none 0 0, rfl, Kd.R_nil _ _ _ _ _, below_alloc (HBX.out.trans (hb2.mono HBX.out.size)) _⟩
end

/-! ### api_QKey_76: function 76 -/
def api_QKey_76.l0 : Nat → List (S44) → List (S44) → Int → Int → Option (Bool)
 | 0, _, _, _, _ => none
 | k + 1, x1, x12, x13, x14 => if x14 < x13 then (if 0 ≤ x14 then (if x14 < (x12.length : Int) then (if x14 < (x1.length : Int) then (if (!(((rd_T44 x12 x14).f0) == ((rd_T44 x1 x14).f0)) || (!(((rd_T44 x12 x14).f1) == ((rd_T44 x1 x14).f1)) || (!(((rd_T44 x12 x14).f2) == ((rd_T44 x1 x14).f2))))) = true then (some false) else (api_QKey_76.l0 k x1 x12 x13 (wrap64 (x14 + 1)))) else (none)) else (none)) else (none)) else (some true)
def api_QKey_76.f (k : Nat) (l0 : List (S44)) (l1 : List (S44)) : Option (Bool) := if (l0.length : Int) = (l1.length : Int) then (api_QKey_76.l0 k l1 l0 (l0.length : Int) 0) else (some false)
theorem api_QKey_76.mono_l : ∀ k, (∀ y0 y1 y2 y3, LeO (api_QKey_76.l0 k y0 y1 y2 y3) (api_QKey_76.l0 (k + 1) y0 y1 y2 y3))
 | 0 => fun _ _ _ _ r h => by simp [api_QKey_76.l0] at h
 | k + 1 => by
  have ih0 := api_QKey_76.mono_l k
  ·intro y0 y1 y2 y3
   unfold api_QKey_76.l0
   repeat' first
   | (with_reducible exact ih0 _ _ _ _)
   | (with_reducible exact LeO.refl _)
   | (with_reducible exact LeO.none _)
   | (with_reducible refine LeO.ite ?_ ?_)
   | (with_reducible refine LeO.bind ?_ (fun _ => ?_))
   | exact ih0 _ _ _ _
   | exact LeO.none _
   | refine LeO.ite ?_ ?_
   | refine LeO.bind ?_ (fun _ => ?_)
theorem api_QKey_76.mono : ∀ a0 a1 k, LeO (api_QKey_76.f k a0 a1) (api_QKey_76.f (k + 1) a0 a1) := by
 intro a0 a1 k
 have ih0 := api_QKey_76.mono_l k
 unfold api_QKey_76.f
 repeat' first
   | (with_reducible exact ih0 _ _ _ _)
   | (with_reducible exact LeO.refl _)
   | (with_reducible exact LeO.none _)
   | (with_reducible refine LeO.ite ?_ ?_)
   | (with_reducible refine LeO.bind ?_ (fun _ => ?_))
   | exact ih0 _ _ _ _
   | exact LeO.none _
   | refine LeO.ite ?_ ?_
   | refine LeO.bind ?_ (fun _ => ?_)
set_option maxHeartbeats 8000000 in
set_option maxRecDepth 100000 in
theorem api_QKey_76.calls (k : Nat) (A0 : Option Addr) (c0 : Nat) (l0 : List (S44)) (A1 : Option Addr) (c1 : Nat) (l1 : List (S44)) (r : Bool) (w : World) (hr0 : Kd.C k44 w A0 l0.length l0) (hc0 : l0.length ≤ c0) (hr1 : Kd.C k44 w A1 l1.length l1) (hc1 : l1.length ≤ c1) (h : api_QKey_76.f k l0 l1 = some r) :
  Calls Try.prog 76 #[.slice A0 l0.length c0, .slice A1 l1.length c1] w fun e w' => e = .returned (.bool r) ∧ Below w.heap.size w w' := by
 have hu44 := Try.underlying44
 have HR0 := Aside0.mk hr0
 have HC0 := Aside0.mk hc0
 clear hr0 hc0
 have HR1 := Aside0.mk hr1
 have HC1 := Aside0.mk hc1
 clear hr1 hc1
 have HB := Aside0.mk (Below.refl w.heap.size w)
 have H : (if (l0.length : Int) = (l1.length : Int) then (api_QKey_76.l0 k l1 l0 (l0.length : Int) 0) else (some false)) = some r := h
 clear h
 by_cases c3 : (l0.length : Int) = (l1.length : Int)
 ·rw [if_pos c3] at H
  have c3b0 : ((l0.length : Int) == (l1.length : Int)) = true := beq_iff_eq.mpr c3
  have c3b1 : ((l0.length : Int) != (l1.length : Int)) = false := bne_eq_false_iff_eq.mpr c3
  have c3b2 : (l0.length == l1.length) = true := by first | simpa using c3 | (simp at c3 ⊢; omega)
  clear c3
  have H' := Aside0.mk H
  clear H
  go_enter Try.func76, Try.ntmps76
  go_wp2
  repeat (go_quiet (fail); try go_wp2)
  go_loopg [14] k (fun kq v14 w' => ∃ (x14_1 : Int), v14 = .int .i64 x14_1 ∧ Aside0 (api_QKey_76.l0 kq l1 l0 (l0.length : Int) x14_1 = some r) ∧ Aside0 (kq ≤ k) ∧ Aside0 (Below w.heap.size w w'))
  case atStart => exact ⟨(0), (by first | rfl | (simp; done) | (simp [*]; done) | (simp [isEmpty_bne]; done)), H', ⟨Nat.le_refl _⟩, ⟨by repeat (first | (with_reducible first | exact HB.out | apply below_alloc | apply pw_below_drewN | apply below_drew1) | exact HB.out)⟩⟩
  case round =>
   clear H'
   try clear c1
   try clear p2
   try clear c3
   try clear c3b0
   try clear c3b1
   try clear c3b2
   obtain ⟨x14_1, rfl, HA, HK1, HB⟩ := hrel
   cases gk with
   | zero => exact absurd HA.out (by simp [api_QKey_76.l0])
   | succ k1 =>
    have H := HA.out
    clear HA
    simp only [api_QKey_76.l0] at H
    by_cases c4 : x14_1 < (l0.length : Int)
    ·rw [if_pos c4] at H
     have c4b0 : decide (x14_1 < (l0.length : Int)) = true := decide_eq_true c4
     clear c4
     by_cases c5 : 0 ≤ x14_1
     ·rw [if_pos c5] at H
      have c5b0 : decide (0 ≤ x14_1) = true := decide_eq_true c5
      clear c5
      by_cases c6 : x14_1 < (l0.length : Int)
      ·rw [if_pos c6] at H
       have c6b0 : decide (x14_1 < (l0.length : Int)) = true := decide_eq_true c6
       clear c6
       by_cases c7 : x14_1 < (l1.length : Int)
       ·rw [if_pos c7] at H
        have c7b0 : decide (x14_1 < (l1.length : Int)) = true := decide_eq_true c7
        clear c7
        by_cases c8 : (!(((rd_T44 l0 x14_1).f0) == ((rd_T44 l1 x14_1).f0)) || (!(((rd_T44 l0 x14_1).f1) == ((rd_T44 l1 x14_1).f1)) || (!(((rd_T44 l0 x14_1).f2) == ((rd_T44 l1 x14_1).f2))))) = true
        ·rw [if_pos c8] at H
         have c8b0 : (!(((rd_T44 l0 x14_1).f0) == ((rd_T44 l1 x14_1).f0)) || (!(((rd_T44 l0 x14_1).f1) == ((rd_T44 l1 x14_1).f1)) || (!(((rd_T44 l0 x14_1).f2) == ((rd_T44 l1 x14_1).f2))))) = true := c8
         clear c8
         obtain rfl := Option.some.inj H
         have p156 : 0 ≤ (x14_1 : Int) := of_decide_eq_true (by first | (with_reducible assumption) | assumption)
         have q156 : x14_1 < (l0.length : Int) := of_decide_eq_true (by first | (with_reducible assumption) | assumption)
         obtain ⟨ad156, e156, hx156_0, hx156_1, hx156_2⟩ := at_T44 HR0.out x14_1 p156 q156
         cases e156
         replace hx156_0 := (HB.out.cell (World.block_lt_of_cell? w _ hx156_0)).trans hx156_0
         replace hx156_1 := (HB.out.cell (World.block_lt_of_cell? w _ hx156_1)).trans hx156_1
         replace hx156_2 := (HB.out.cell (World.block_lt_of_cell? w _ hx156_2)).trans hx156_2
         replace p156 := eq_true p156
         replace q156 := eq_true q156
         go_wp2_with (first | ((with_reducible refine gate_dst (N := 6) rfl ?_); refine box_event ?hg (N := 6) ?hd (cs := #[.int .i64 0, .int .i64 0, .int .i64 0]) (t := 44) ?hr ?_; (case hd => rfl); (case hg => rfl); (case hr => first | (go_simp; done) | (go_simp; rfl)); intro gb157 hg w9 hbox hb; have n0_ := Aside0.mk (below_step (by repeat (first | (with_reducible first | exact HB.out | apply below_alloc | apply pw_below_drewN | apply below_drew1) | exact HB.out)) hb); have n1_ := Aside0.mk (hbox); have n2_ := Aside0.mk ((by rw [hg]; exact (below_size (by repeat (first | (with_reducible first | exact HB.out | apply below_alloc | apply pw_below_drewN | apply below_drew1) | exact HB.out))) : w.heap.size ≤ gb157)); have n3_ := Aside0.mk ((by rw [hg]; exact (below_size (by repeat (first | (with_reducible first | exact HB.out | apply below_alloc | apply pw_below_drewN | apply below_drew1) | exact HB.out))) : w.heap.size ≤ gb157)); clear HB; have HB := n0_; have BK157 := n1_; have GW157 := n2_; have GE157 := n3_; clear n0_ n1_ n2_ n3_; clear hb hbox hg; have hcz10_0 : w9.cell? ⟨gb157, 0, none⟩ = some (.int .i64 0) := (blk_cell BK157.out 0).trans rfl; have hcz10_1 : w9.cell? ⟨gb157, 1, none⟩ = some (.int .i64 0) := (blk_cell BK157.out 1).trans rfl; have hcz10_2 : w9.cell? ⟨gb157, 2, none⟩ = some (.int .i64 0) := (blk_cell BK157.out 2).trans rfl; have hfz10_0 := blk_frozen BK157.out 0; have hfz10_1 := blk_frozen BK157.out 1; have hfz10_2 := blk_frozen BK157.out 2; have p158 : 0 ≤ (x14_1 : Int) := of_decide_eq_true (by first | (with_reducible assumption) | assumption); have q158 : x14_1 < (l1.length : Int) := of_decide_eq_true (by first | (with_reducible assumption) | assumption); obtain ⟨ad158, e158, hx158_0, hx158_1, hx158_2⟩ := at_T44 HR1.out x14_1 p158 q158; cases e158; have hn158_0 : ad158.block ≠ gb157 := Nat.ne_of_lt (Nat.lt_of_lt_of_le (by have := World.block_lt_of_cell? _ _ hx158_0; first | rwa [add_block] at this | exact this) GW157.out); have hn158_1 : ad158.block ≠ gb157 := Nat.ne_of_lt (Nat.lt_of_lt_of_le (by have := World.block_lt_of_cell? _ _ hx158_0; first | rwa [add_block] at this | exact this) GW157.out); have hn158_2 : ad158.block ≠ gb157 := Nat.ne_of_lt (Nat.lt_of_lt_of_le (by have := World.block_lt_of_cell? _ _ hx158_0; first | rwa [add_block] at this | exact this) GW157.out); replace hx158_0 := (HB.out.cell (World.block_lt_of_cell? w _ hx158_0)).trans hx158_0; replace hx158_1 := (HB.out.cell (World.block_lt_of_cell? w _ hx158_1)).trans hx158_1; replace hx158_2 := (HB.out.cell (World.block_lt_of_cell? w _ hx158_2)).trans hx158_2; replace hx158_0 := (cell_far (p := ⟨gb157, 0, none⟩) (by first | (rw [add_block]; exact hn158_0) | (show (Addr.add _ _).block ≠ _; rw [add_block]; exact hn158_0) | exact hn158_0) (.int .i64 ((rd_T44 l0 x14_1).f0))).trans hx158_0; replace hx158_1 := (cell_far (p := ⟨gb157, 0, none⟩) (by first | (rw [add_block]; exact hn158_0) | (show (Addr.add _ _).block ≠ _; rw [add_block]; exact hn158_0) | exact hn158_0) (.int .i64 ((rd_T44 l0 x14_1).f0))).trans hx158_1; replace hx158_2 := (cell_far (p := ⟨gb157, 0, none⟩) (by first | (rw [add_block]; exact hn158_0) | (show (Addr.add _ _).block ≠ _; rw [add_block]; exact hn158_0) | exact hn158_0) (.int .i64 ((rd_T44 l0 x14_1).f0))).trans hx158_2; replace hx158_0 := (cell_far (p := ⟨gb157, 1, none⟩) (by first | (rw [add_block]; exact hn158_1) | (show (Addr.add _ _).block ≠ _; rw [add_block]; exact hn158_1) | exact hn158_1) (.int .i64 ((rd_T44 l0 x14_1).f1))).trans hx158_0; replace hx158_1 := (cell_far (p := ⟨gb157, 1, none⟩) (by first | (rw [add_block]; exact hn158_1) | (show (Addr.add _ _).block ≠ _; rw [add_block]; exact hn158_1) | exact hn158_1) (.int .i64 ((rd_T44 l0 x14_1).f1))).trans hx158_1; replace hx158_2 := (cell_far (p := ⟨gb157, 1, none⟩) (by first | (rw [add_block]; exact hn158_1) | (show (Addr.add _ _).block ≠ _; rw [add_block]; exact hn158_1) | exact hn158_1) (.int .i64 ((rd_T44 l0 x14_1).f1))).trans hx158_2; replace hx158_0 := (cell_far (p := ⟨gb157, 2, none⟩) (by first | (rw [add_block]; exact hn158_2) | (show (Addr.add _ _).block ≠ _; rw [add_block]; exact hn158_2) | exact hn158_2) (.int .i64 ((rd_T44 l0 x14_1).f2))).trans hx158_0; replace hx158_1 := (cell_far (p := ⟨gb157, 2, none⟩) (by first | (rw [add_block]; exact hn158_2) | (show (Addr.add _ _).block ≠ _; rw [add_block]; exact hn158_2) | exact hn158_2) (.int .i64 ((rd_T44 l0 x14_1).f2))).trans hx158_1; replace hx158_2 := (cell_far (p := ⟨gb157, 2, none⟩) (by first | (rw [add_block]; exact hn158_2) | (show (Addr.add _ _).block ≠ _; rw [add_block]; exact hn158_2) | exact hn158_2) (.int .i64 ((rd_T44 l0 x14_1).f2))).trans hx158_2; (try have hy158_0 := fun (n_ : Nat) => (show (((((w9.drewN n_).setCell ⟨gb157, 0, none⟩ (.int .i64 ((rd_T44 l0 x14_1).f0))).setCell ⟨gb157, 1, none⟩ (.int .i64 ((rd_T44 l0 x14_1).f1))).setCell ⟨gb157, 2, none⟩ (.int .i64 ((rd_T44 l0 x14_1).f2)))).cell? _ = some _ from hx158_0)); (try have hy158_1 := fun (n_ : Nat) => (show (((((w9.drewN n_).setCell ⟨gb157, 0, none⟩ (.int .i64 ((rd_T44 l0 x14_1).f0))).setCell ⟨gb157, 1, none⟩ (.int .i64 ((rd_T44 l0 x14_1).f1))).setCell ⟨gb157, 2, none⟩ (.int .i64 ((rd_T44 l0 x14_1).f2)))).cell? _ = some _ from hx158_1)); (try have hy158_2 := fun (n_ : Nat) => (show (((((w9.drewN n_).setCell ⟨gb157, 0, none⟩ (.int .i64 ((rd_T44 l0 x14_1).f0))).setCell ⟨gb157, 1, none⟩ (.int .i64 ((rd_T44 l0 x14_1).f1))).setCell ⟨gb157, 2, none⟩ (.int .i64 ((rd_T44 l0 x14_1).f2)))).cell? _ = some _ from hx158_2)); clear hn158_0; clear hn158_1; clear hn158_2; replace p158 := eq_true p158; replace q158 := eq_true q158))
         repeat (go_quiet (first | ((with_reducible refine gate_dst (N := 6) rfl ?_); refine box_event ?hg (N := 6) ?hd (cs := #[.int .i64 0, .int .i64 0, .int .i64 0]) (t := 44) ?hr ?_; (case hd => rfl); (case hg => rfl); (case hr => first | (go_simp; done) | (go_simp; rfl)); intro gb157 hg w9 hbox hb; have n0_ := Aside0.mk (below_step (by repeat (first | (with_reducible first | exact HB.out | apply below_alloc | apply pw_below_drewN | apply below_drew1) | exact HB.out)) hb); have n1_ := Aside0.mk (hbox); have n2_ := Aside0.mk ((by rw [hg]; exact (below_size (by repeat (first | (with_reducible first | exact HB.out | apply below_alloc | apply pw_below_drewN | apply below_drew1) | exact HB.out))) : w.heap.size ≤ gb157)); have n3_ := Aside0.mk ((by rw [hg]; exact (below_size (by repeat (first | (with_reducible first | exact HB.out | apply below_alloc | apply pw_below_drewN | apply below_drew1) | exact HB.out))) : w.heap.size ≤ gb157)); clear HB; have HB := n0_; have BK157 := n1_; have GW157 := n2_; have GE157 := n3_; clear n0_ n1_ n2_ n3_; clear hb hbox hg; have hcz10_0 : w9.cell? ⟨gb157, 0, none⟩ = some (.int .i64 0) := (blk_cell BK157.out 0).trans rfl; have hcz10_1 : w9.cell? ⟨gb157, 1, none⟩ = some (.int .i64 0) := (blk_cell BK157.out 1).trans rfl; have hcz10_2 : w9.cell? ⟨gb157, 2, none⟩ = some (.int .i64 0) := (blk_cell BK157.out 2).trans rfl; have hfz10_0 := blk_frozen BK157.out 0; have hfz10_1 := blk_frozen BK157.out 1; have hfz10_2 := blk_frozen BK157.out 2; have p158 : 0 ≤ (x14_1 : Int) := of_decide_eq_true (by first | (with_reducible assumption) | assumption); have q158 : x14_1 < (l1.length : Int) := of_decide_eq_true (by first | (with_reducible assumption) | assumption); obtain ⟨ad158, e158, hx158_0, hx158_1, hx158_2⟩ := at_T44 HR1.out x14_1 p158 q158; cases e158; have hn158_0 : ad158.block ≠ gb157 := Nat.ne_of_lt (Nat.lt_of_lt_of_le (by have := World.block_lt_of_cell? _ _ hx158_0; first | rwa [add_block] at this | exact this) GW157.out); have hn158_1 : ad158.block ≠ gb157 := Nat.ne_of_lt (Nat.lt_of_lt_of_le (by have := World.block_lt_of_cell? _ _ hx158_0; first | rwa [add_block] at this | exact this) GW157.out); have hn158_2 : ad158.block ≠ gb157 := Nat.ne_of_lt (Nat.lt_of_lt_of_le (by have := World.block_lt_of_cell? _ _ hx158_0; first | rwa [add_block] at this | exact this) GW157.out); replace hx158_0 := (HB.out.cell (World.block_lt_of_cell? w _ hx158_0)).trans hx158_0; replace hx158_1 := (HB.out.cell (World.block_lt_of_cell? w _ hx158_1)).trans hx158_1; replace hx158_2 := (HB.out.cell (World.block_lt_of_cell? w _ hx158_2)).trans hx158_2; replace hx158_0 := (cell_far (p := ⟨gb157, 0, none⟩) (by first | (rw [add_block]; exact hn158_0) | (show (Addr.add _ _).block ≠ _; rw [add_block]; exact hn158_0) | exact hn158_0) (.int .i64 ((rd_T44 l0 x14_1).f0))).trans hx158_0; replace hx158_1 := (cell_far (p := ⟨gb157, 0, none⟩) (by first | (rw [add_block]; exact hn158_0) | (show (Addr.add _ _).block ≠ _; rw [add_block]; exact hn158_0) | exact hn158_0) (.int .i64 ((rd_T44 l0 x14_1).f0))).trans hx158_1; replace hx158_2 := (cell_far (p := ⟨gb157, 0, none⟩) (by first | (rw [add_block]; exact hn158_0) | (show (Addr.add _ _).block ≠ _; rw [add_block]; exact hn158_0) | exact hn158_0) (.int .i64 ((rd_T44 l0 x14_1).f0))).trans hx158_2; replace hx158_0 := (cell_far (p := ⟨gb157, 1, none⟩) (by first | (rw [add_block]; exact hn158_1) | (show (Addr.add _ _).block ≠ _; rw [add_block]; exact hn158_1) | exact hn158_1) (.int .i64 ((rd_T44 l0 x14_1).f1))).trans hx158_0; replace hx158_1 := (cell_far (p := ⟨gb157, 1, none⟩) (by first | (rw [add_block]; exact hn158_1) | (show (Addr.add _ _).block ≠ _; rw [add_block]; exact hn158_1) | exact hn158_1) (.int .i64 ((rd_T44 l0 x14_1).f1))).trans hx158_1; replace hx158_2 := (cell_far (p := ⟨gb157, 1, none⟩) (by first | (rw [add_block]; exact hn158_1) | (show (Addr.add _ _).block ≠ _; rw [add_block]; exact hn158_1) | exact hn158_1) (.int .i64 ((rd_T44 l0 x14_1).f1))).trans hx158_2; replace hx158_0 := (cell_far (p := ⟨gb157, 2, none⟩) (by first | (rw [add_block]; exact hn158_2) | (show (Addr.add _ _).block ≠ _; rw [add_block]; exact hn158_2) | exact hn158_2) (.int .i64 ((rd_T44 l0 x14_1).f2))).trans hx158_0; replace hx158_1 := (cell_far (p := ⟨gb157, 2, none⟩) (by first | (rw [add_block]; exact hn158_2) | (show (Addr.add _ _).block ≠ _; rw [add_block]; exact hn158_2) | exact hn158_2) (.int .i64 ((rd_T44 l0 x14_1).f2))).trans hx158_1; replace hx158_2 := (cell_far (p := ⟨gb157, 2, none⟩) (by first | (rw [add_block]; exact hn158_2) | (show (Addr.add _ _).block ≠ _; rw [add_block]; exact hn158_2) | exact hn158_2) (.int .i64 ((rd_T44 l0 x14_1).f2))).trans hx158_2; (try have hy158_0 := fun (n_ : Nat) => (show (((((w9.drewN n_).setCell ⟨gb157, 0, none⟩ (.int .i64 ((rd_T44 l0 x14_1).f0))).setCell ⟨gb157, 1, none⟩ (.int .i64 ((rd_T44 l0 x14_1).f1))).setCell ⟨gb157, 2, none⟩ (.int .i64 ((rd_T44 l0 x14_1).f2)))).cell? _ = some _ from hx158_0)); (try have hy158_1 := fun (n_ : Nat) => (show (((((w9.drewN n_).setCell ⟨gb157, 0, none⟩ (.int .i64 ((rd_T44 l0 x14_1).f0))).setCell ⟨gb157, 1, none⟩ (.int .i64 ((rd_T44 l0 x14_1).f1))).setCell ⟨gb157, 2, none⟩ (.int .i64 ((rd_T44 l0 x14_1).f2)))).cell? _ = some _ from hx158_1)); (try have hy158_2 := fun (n_ : Nat) => (show (((((w9.drewN n_).setCell ⟨gb157, 0, none⟩ (.int .i64 ((rd_T44 l0 x14_1).f0))).setCell ⟨gb157, 1, none⟩ (.int .i64 ((rd_T44 l0 x14_1).f1))).setCell ⟨gb157, 2, none⟩ (.int .i64 ((rd_T44 l0 x14_1).f2)))).cell? _ = some _ from hx158_2)); clear hn158_0; clear hn158_1; clear hn158_2; replace p158 := eq_true p158; replace q158 := eq_true q158)); try go_wp2_with (first | ((with_reducible refine gate_dst (N := 6) rfl ?_); refine box_event ?hg (N := 6) ?hd (cs := #[.int .i64 0, .int .i64 0, .int .i64 0]) (t := 44) ?hr ?_; (case hd => rfl); (case hg => rfl); (case hr => first | (go_simp; done) | (go_simp; rfl)); intro gb157 hg w9 hbox hb; have n0_ := Aside0.mk (below_step (by repeat (first | (with_reducible first | exact HB.out | apply below_alloc | apply pw_below_drewN | apply below_drew1) | exact HB.out)) hb); have n1_ := Aside0.mk (hbox); have n2_ := Aside0.mk ((by rw [hg]; exact (below_size (by repeat (first | (with_reducible first | exact HB.out | apply below_alloc | apply pw_below_drewN | apply below_drew1) | exact HB.out))) : w.heap.size ≤ gb157)); have n3_ := Aside0.mk ((by rw [hg]; exact (below_size (by repeat (first | (with_reducible first | exact HB.out | apply below_alloc | apply pw_below_drewN | apply below_drew1) | exact HB.out))) : w.heap.size ≤ gb157)); clear HB; have HB := n0_; have BK157 := n1_; have GW157 := n2_; have GE157 := n3_; clear n0_ n1_ n2_ n3_; clear hb hbox hg; have hcz10_0 : w9.cell? ⟨gb157, 0, none⟩ = some (.int .i64 0) := (blk_cell BK157.out 0).trans rfl; have hcz10_1 : w9.cell? ⟨gb157, 1, none⟩ = some (.int .i64 0) := (blk_cell BK157.out 1).trans rfl; have hcz10_2 : w9.cell? ⟨gb157, 2, none⟩ = some (.int .i64 0) := (blk_cell BK157.out 2).trans rfl; have hfz10_0 := blk_frozen BK157.out 0; have hfz10_1 := blk_frozen BK157.out 1; have hfz10_2 := blk_frozen BK157.out 2; have p158 : 0 ≤ (x14_1 : Int) := of_decide_eq_true (by first | (with_reducible assumption) | assumption); have q158 : x14_1 < (l1.length : Int) := of_decide_eq_true (by first | (with_reducible assumption) | assumption); obtain ⟨ad158, e158, hx158_0, hx158_1, hx158_2⟩ := at_T44 HR1.out x14_1 p158 q158; cases e158; have hn158_0 : ad158.block ≠ gb157 := Nat.ne_of_lt (Nat.lt_of_lt_of_le (by have := World.block_lt_of_cell? _ _ hx158_0; first | rwa [add_block] at this | exact this) GW157.out); have hn158_1 : ad158.block ≠ gb157 := Nat.ne_of_lt (Nat.lt_of_lt_of_le (by have := World.block_lt_of_cell? _ _ hx158_0; first | rwa [add_block] at this | exact this) GW157.out); have hn158_2 : ad158.block ≠ gb157 := Nat.ne_of_lt (Nat.lt_of_lt_of_le (by have := World.block_lt_of_cell? _ _ hx158_0; first | rwa [add_block] at this | exact this) GW157.out); replace hx158_0 := (HB.out.cell (World.block_lt_of_cell? w _ hx158_0)).trans hx158_0; replace hx158_1 := (HB.out.cell (World.block_lt_of_cell? w _ hx158_1)).trans hx158_1; replace hx158_2 := (HB.out.cell (World.block_lt_of_cell? w _ hx158_2)).trans hx158_2; replace hx158_0 := (cell_far (p := ⟨gb157, 0, none⟩) (by first | (rw [add_block]; exact hn158_0) | (show (Addr.add _ _).block ≠ _; rw [add_block]; exact hn158_0) | exact hn158_0) (.int .i64 ((rd_T44 l0 x14_1).f0))).trans hx158_0; replace hx158_1 := (cell_far (p := ⟨gb157, 0, none⟩) (by first | (rw [add_block]; exact hn158_0) | (show (Addr.add _ _).block ≠ _; rw [add_block]; exact hn158_0) | exact hn158_0) (.int .i64 ((rd_T44 l0 x14_1).f0))).trans hx158_1; replace hx158_2 := (cell_far (p := ⟨gb157, 0, none⟩) (by first | (rw [add_block]; exact hn158_0) | (show (Addr.add _ _).block ≠ _; rw [add_block]; exact hn158_0) | exact hn158_0) (.int .i64 ((rd_T44 l0 x14_1).f0))).trans hx158_2; replace hx158_0 := (cell_far (p := ⟨gb157, 1, none⟩) (by first | (rw [add_block]; exact hn158_1) | (show (Addr.add _ _).block ≠ _; rw [add_block]; exact hn158_1) | exact hn158_1) (.int .i64 ((rd_T44 l0 x14_1).f1))).trans hx158_0; replace hx158_1 := (cell_far (p := ⟨gb157, 1, none⟩) (by first | (rw [add_block]; exact hn158_1) | (show (Addr.add _ _).block ≠ _; rw [add_block]; exact hn158_1) | exact hn158_1) (.int .i64 ((rd_T44 l0 x14_1).f1))).trans hx158_1; replace hx158_2 := (cell_far (p := ⟨gb157, 1, none⟩) (by first | (rw [add_block]; exact hn158_1) | (show (Addr.add _ _).block ≠ _; rw [add_block]; exact hn158_1) | exact hn158_1) (.int .i64 ((rd_T44 l0 x14_1).f1))).trans hx158_2; replace hx158_0 := (cell_far (p := ⟨gb157, 2, none⟩) (by first | (rw [add_block]; exact hn158_2) | (show (Addr.add _ _).block ≠ _; rw [add_block]; exact hn158_2) | exact hn158_2) (.int .i64 ((rd_T44 l0 x14_1).f2))).trans hx158_0; replace hx158_1 := (cell_far (p := ⟨gb157, 2, none⟩) (by first | (rw [add_block]; exact hn158_2) | (show (Addr.add _ _).block ≠ _; rw [add_block]; exact hn158_2) | exact hn158_2) (.int .i64 ((rd_T44 l0 x14_1).f2))).trans hx158_1; replace hx158_2 := (cell_far (p := ⟨gb157, 2, none⟩) (by first | (rw [add_block]; exact hn158_2) | (show (Addr.add _ _).block ≠ _; rw [add_block]; exact hn158_2) | exact hn158_2) (.int .i64 ((rd_T44 l0 x14_1).f2))).trans hx158_2; (try have hy158_0 := fun (n_ : Nat) => (show (((((w9.drewN n_).setCell ⟨gb157, 0, none⟩ (.int .i64 ((rd_T44 l0 x14_1).f0))).setCell ⟨gb157, 1, none⟩ (.int .i64 ((rd_T44 l0 x14_1).f1))).setCell ⟨gb157, 2, none⟩ (.int .i64 ((rd_T44 l0 x14_1).f2)))).cell? _ = some _ from hx158_0)); (try have hy158_1 := fun (n_ : Nat) => (show (((((w9.drewN n_).setCell ⟨gb157, 0, none⟩ (.int .i64 ((rd_T44 l0 x14_1).f0))).setCell ⟨gb157, 1, none⟩ (.int .i64 ((rd_T44 l0 x14_1).f1))).setCell ⟨gb157, 2, none⟩ (.int .i64 ((rd_T44 l0 x14_1).f2)))).cell? _ = some _ from hx158_1)); (try have hy158_2 := fun (n_ : Nat) => (show (((((w9.drewN n_).setCell ⟨gb157, 0, none⟩ (.int .i64 ((rd_T44 l0 x14_1).f0))).setCell ⟨gb157, 1, none⟩ (.int .i64 ((rd_T44 l0 x14_1).f1))).setCell ⟨gb157, 2, none⟩ (.int .i64 ((rd_T44 l0 x14_1).f2)))).cell? _ = some _ from hx158_2)); clear hn158_0; clear hn158_1; clear hn158_2; replace p158 := eq_true p158; replace q158 := eq_true q158)))
         go_ret
         exact ⟨by first | rfl | (simp [errW_none, errW_some] <;> rfl) | (simp [*, errW_none, errW_some] <;> rfl), by repeat (first | (with_reducible first | exact HB.out | apply below_alloc | apply pw_below_drewN | apply below_drew1 | refine below_set ?_ GE157.out) | exact HB.out)⟩
        ·rw [if_neg c8] at H
         have c8b0 : (!(((rd_T44 l0 x14_1).f0) == ((rd_T44 l1 x14_1).f0)) || (!(((rd_T44 l0 x14_1).f1) == ((rd_T44 l1 x14_1).f1)) || (!(((rd_T44 l0 x14_1).f2) == ((rd_T44 l1 x14_1).f2))))) = false := by simpa using c8
         clear c8
         have H' := Aside0.mk H
         clear H
         have p156 : 0 ≤ (x14_1 : Int) := of_decide_eq_true (by first | (with_reducible assumption) | assumption)
         have q156 : x14_1 < (l0.length : Int) := of_decide_eq_true (by first | (with_reducible assumption) | assumption)
         obtain ⟨ad156, e156, hx156_0, hx156_1, hx156_2⟩ := at_T44 HR0.out x14_1 p156 q156
         cases e156
         replace hx156_0 := (HB.out.cell (World.block_lt_of_cell? w _ hx156_0)).trans hx156_0
         replace hx156_1 := (HB.out.cell (World.block_lt_of_cell? w _ hx156_1)).trans hx156_1
         replace hx156_2 := (HB.out.cell (World.block_lt_of_cell? w _ hx156_2)).trans hx156_2
         replace p156 := eq_true p156
         replace q156 := eq_true q156
         go_wp2_with (first | ((with_reducible refine gate_dst (N := 6) rfl ?_); refine box_event ?hg (N := 6) ?hd (cs := #[.int .i64 0, .int .i64 0, .int .i64 0]) (t := 44) ?hr ?_; (case hd => rfl); (case hg => rfl); (case hr => first | (go_simp; done) | (go_simp; rfl)); intro gb157 hg w11 hbox hb; have n0_ := Aside0.mk (below_step (by repeat (first | (with_reducible first | exact HB.out | apply below_alloc | apply pw_below_drewN | apply below_drew1) | exact HB.out)) hb); have n1_ := Aside0.mk (hbox); have n2_ := Aside0.mk ((by rw [hg]; exact (below_size (by repeat (first | (with_reducible first | exact HB.out | apply below_alloc | apply pw_below_drewN | apply below_drew1) | exact HB.out))) : w.heap.size ≤ gb157)); have n3_ := Aside0.mk ((by rw [hg]; exact (below_size (by repeat (first | (with_reducible first | exact HB.out | apply below_alloc | apply pw_below_drewN | apply below_drew1) | exact HB.out))) : w.heap.size ≤ gb157)); clear HB; have HB := n0_; have BK157 := n1_; have GW157 := n2_; have GE157 := n3_; clear n0_ n1_ n2_ n3_; clear hb hbox hg; have hcz12_0 : w11.cell? ⟨gb157, 0, none⟩ = some (.int .i64 0) := (blk_cell BK157.out 0).trans rfl; have hcz12_1 : w11.cell? ⟨gb157, 1, none⟩ = some (.int .i64 0) := (blk_cell BK157.out 1).trans rfl; have hcz12_2 : w11.cell? ⟨gb157, 2, none⟩ = some (.int .i64 0) := (blk_cell BK157.out 2).trans rfl; have hfz12_0 := blk_frozen BK157.out 0; have hfz12_1 := blk_frozen BK157.out 1; have hfz12_2 := blk_frozen BK157.out 2; have p158 : 0 ≤ (x14_1 : Int) := of_decide_eq_true (by first | (with_reducible assumption) | assumption); have q158 : x14_1 < (l1.length : Int) := of_decide_eq_true (by first | (with_reducible assumption) | assumption); obtain ⟨ad158, e158, hx158_0, hx158_1, hx158_2⟩ := at_T44 HR1.out x14_1 p158 q158; cases e158; have hn158_0 : ad158.block ≠ gb157 := Nat.ne_of_lt (Nat.lt_of_lt_of_le (by have := World.block_lt_of_cell? _ _ hx158_0; first | rwa [add_block] at this | exact this) GW157.out); have hn158_1 : ad158.block ≠ gb157 := Nat.ne_of_lt (Nat.lt_of_lt_of_le (by have := World.block_lt_of_cell? _ _ hx158_0; first | rwa [add_block] at this | exact this) GW157.out); have hn158_2 : ad158.block ≠ gb157 := Nat.ne_of_lt (Nat.lt_of_lt_of_le (by have := World.block_lt_of_cell? _ _ hx158_0; first | rwa [add_block] at this | exact this) GW157.out); replace hx158_0 := (HB.out.cell (World.block_lt_of_cell? w _ hx158_0)).trans hx158_0; replace hx158_1 := (HB.out.cell (World.block_lt_of_cell? w _ hx158_1)).trans hx158_1; replace hx158_2 := (HB.out.cell (World.block_lt_of_cell? w _ hx158_2)).trans hx158_2; replace hx158_0 := (cell_far (p := ⟨gb157, 0, none⟩) (by first | (rw [add_block]; exact hn158_0) | (show (Addr.add _ _).block ≠ _; rw [add_block]; exact hn158_0) | exact hn158_0) (.int .i64 ((rd_T44 l0 x14_1).f0))).trans hx158_0; replace hx158_1 := (cell_far (p := ⟨gb157, 0, none⟩) (by first | (rw [add_block]; exact hn158_0) | (show (Addr.add _ _).block ≠ _; rw [add_block]; exact hn158_0) | exact hn158_0) (.int .i64 ((rd_T44 l0 x14_1).f0))).trans hx158_1; replace hx158_2 := (cell_far (p := ⟨gb157, 0, none⟩) (by first | (rw [add_block]; exact hn158_0) | (show (Addr.add _ _).block ≠ _; rw [add_block]; exact hn158_0) | exact hn158_0) (.int .i64 ((rd_T44 l0 x14_1).f0))).trans hx158_2; replace hx158_0 := (cell_far (p := ⟨gb157, 1, none⟩) (by first | (rw [add_block]; exact hn158_1) | (show (Addr.add _ _).block ≠ _; rw [add_block]; exact hn158_1) | exact hn158_1) (.int .i64 ((rd_T44 l0 x14_1).f1))).trans hx158_0; replace hx158_1 := (cell_far (p := ⟨gb157, 1, none⟩) (by first | (rw [add_block]; exact hn158_1) | (show (Addr.add _ _).block ≠ _; rw [add_block]; exact hn158_1) | exact hn158_1) (.int .i64 ((rd_T44 l0 x14_1).f1))).trans hx158_1; replace hx158_2 := (cell_far (p := ⟨gb157, 1, none⟩) (by first | (rw [add_block]; exact hn158_1) | (show (Addr.add _ _).block ≠ _; rw [add_block]; exact hn158_1) | exact hn158_1) (.int .i64 ((rd_T44 l0 x14_1).f1))).trans hx158_2; replace hx158_0 := (cell_far (p := ⟨gb157, 2, none⟩) (by first | (rw [add_block]; exact hn158_2) | (show (Addr.add _ _).block ≠ _; rw [add_block]; exact hn158_2) | exact hn158_2) (.int .i64 ((rd_T44 l0 x14_1).f2))).trans hx158_0; replace hx158_1 := (cell_far (p := ⟨gb157, 2, none⟩) (by first | (rw [add_block]; exact hn158_2) | (show (Addr.add _ _).block ≠ _; rw [add_block]; exact hn158_2) | exact hn158_2) (.int .i64 ((rd_T44 l0 x14_1).f2))).trans hx158_1; replace hx158_2 := (cell_far (p := ⟨gb157, 2, none⟩) (by first | (rw [add_block]; exact hn158_2) | (show (Addr.add _ _).block ≠ _; rw [add_block]; exact hn158_2) | exact hn158_2) (.int .i64 ((rd_T44 l0 x14_1).f2))).trans hx158_2; (try have hy158_0 := fun (n_ : Nat) => (show (((((w11.drewN n_).setCell ⟨gb157, 0, none⟩ (.int .i64 ((rd_T44 l0 x14_1).f0))).setCell ⟨gb157, 1, none⟩ (.int .i64 ((rd_T44 l0 x14_1).f1))).setCell ⟨gb157, 2, none⟩ (.int .i64 ((rd_T44 l0 x14_1).f2)))).cell? _ = some _ from hx158_0)); (try have hy158_1 := fun (n_ : Nat) => (show (((((w11.drewN n_).setCell ⟨gb157, 0, none⟩ (.int .i64 ((rd_T44 l0 x14_1).f0))).setCell ⟨gb157, 1, none⟩ (.int .i64 ((rd_T44 l0 x14_1).f1))).setCell ⟨gb157, 2, none⟩ (.int .i64 ((rd_T44 l0 x14_1).f2)))).cell? _ = some _ from hx158_1)); (try have hy158_2 := fun (n_ : Nat) => (show (((((w11.drewN n_).setCell ⟨gb157, 0, none⟩ (.int .i64 ((rd_T44 l0 x14_1).f0))).setCell ⟨gb157, 1, none⟩ (.int .i64 ((rd_T44 l0 x14_1).f1))).setCell ⟨gb157, 2, none⟩ (.int .i64 ((rd_T44 l0 x14_1).f2)))).cell? _ = some _ from hx158_2)); clear hn158_0; clear hn158_1; clear hn158_2; replace p158 := eq_true p158; replace q158 := eq_true q158))
         repeat (go_quiet (first | ((with_reducible refine gate_dst (N := 6) rfl ?_); refine box_event ?hg (N := 6) ?hd (cs := #[.int .i64 0, .int .i64 0, .int .i64 0]) (t := 44) ?hr ?_; (case hd => rfl); (case hg => rfl); (case hr => first | (go_simp; done) | (go_simp; rfl)); intro gb157 hg w11 hbox hb; have n0_ := Aside0.mk (below_step (by repeat (first | (with_reducible first | exact HB.out | apply below_alloc | apply pw_below_drewN | apply below_drew1) | exact HB.out)) hb); have n1_ := Aside0.mk (hbox); have n2_ := Aside0.mk ((by rw [hg]; exact (below_size (by repeat (first | (with_reducible first | exact HB.out | apply below_alloc | apply pw_below_drewN | apply below_drew1) | exact HB.out))) : w.heap.size ≤ gb157)); have n3_ := Aside0.mk ((by rw [hg]; exact (below_size (by repeat (first | (with_reducible first | exact HB.out | apply below_alloc | apply pw_below_drewN | apply below_drew1) | exact HB.out))) : w.heap.size ≤ gb157)); clear HB; have HB := n0_; have BK157 := n1_; have GW157 := n2_; have GE157 := n3_; clear n0_ n1_ n2_ n3_; clear hb hbox hg; have hcz12_0 : w11.cell? ⟨gb157, 0, none⟩ = some (.int .i64 0) := (blk_cell BK157.out 0).trans rfl; have hcz12_1 : w11.cell? ⟨gb157, 1, none⟩ = some (.int .i64 0) := (blk_cell BK157.out 1).trans rfl; have hcz12_2 : w11.cell? ⟨gb157, 2, none⟩ = some (.int .i64 0) := (blk_cell BK157.out 2).trans rfl; have hfz12_0 := blk_frozen BK157.out 0; have hfz12_1 := blk_frozen BK157.out 1; have hfz12_2 := blk_frozen BK157.out 2; have p158 : 0 ≤ (x14_1 : Int) := of_decide_eq_true (by first | (with_reducible assumption) | assumption); have q158 : x14_1 < (l1.length : Int) := of_decide_eq_true (by first | (with_reducible assumption) | assumption); obtain ⟨ad158, e158, hx158_0, hx158_1, hx158_2⟩ := at_T44 HR1.out x14_1 p158 q158; cases e158; have hn158_0 : ad158.block ≠ gb157 := Nat.ne_of_lt (Nat.lt_of_lt_of_le (by have := World.block_lt_of_cell? _ _ hx158_0; first | rwa [add_block] at this | exact this) GW157.out); have hn158_1 : ad158.block ≠ gb157 := Nat.ne_of_lt (Nat.lt_of_lt_of_le (by have := World.block_lt_of_cell? _ _ hx158_0; first | rwa [add_block] at this | exact this) GW157.out); have hn158_2 : ad158.block ≠ gb157 := Nat.ne_of_lt (Nat.lt_of_lt_of_le (by have := World.block_lt_of_cell? _ _ hx158_0; first | rwa [add_block] at this | exact this) GW157.out); replace hx158_0 := (HB.out.cell (World.block_lt_of_cell? w _ hx158_0)).trans hx158_0; replace hx158_1 := (HB.out.cell (World.block_lt_of_cell? w _ hx158_1)).trans hx158_1; replace hx158_2 := (HB.out.cell (World.block_lt_of_cell? w _ hx158_2)).trans hx158_2; replace hx158_0 := (cell_far (p := ⟨gb157, 0, none⟩) (by first | (rw [add_block]; exact hn158_0) | (show (Addr.add _ _).block ≠ _; rw [add_block]; exact hn158_0) | exact hn158_0) (.int .i64 ((rd_T44 l0 x14_1).f0))).trans hx158_0; replace hx158_1 := (cell_far (p := ⟨gb157, 0, none⟩) (by first | (rw [add_block]; exact hn158_0) | (show (Addr.add _ _).block ≠ _; rw [add_block]; exact hn158_0) | exact hn158_0) (.int .i64 ((rd_T44 l0 x14_1).f0))).trans hx158_1; replace hx158_2 := (cell_far (p := ⟨gb157, 0, none⟩) (by first | (rw [add_block]; exact hn158_0) | (show (Addr.add _ _).block ≠ _; rw [add_block]; exact hn158_0) | exact hn158_0) (.int .i64 ((rd_T44 l0 x14_1).f0))).trans hx158_2; replace hx158_0 := (cell_far (p := ⟨gb157, 1, none⟩) (by first | (rw [add_block]; exact hn158_1) | (show (Addr.add _ _).block ≠ _; rw [add_block]; exact hn158_1) | exact hn158_1) (.int .i64 ((rd_T44 l0 x14_1).f1))).trans hx158_0; replace hx158_1 := (cell_far (p := ⟨gb157, 1, none⟩) (by first | (rw [add_block]; exact hn158_1) | (show (Addr.add _ _).block ≠ _; rw [add_block]; exact hn158_1) | exact hn158_1) (.int .i64 ((rd_T44 l0 x14_1).f1))).trans hx158_1; replace hx158_2 := (cell_far (p := ⟨gb157, 1, none⟩) (by first | (rw [add_block]; exact hn158_1) | (show (Addr.add _ _).block ≠ _; rw [add_block]; exact hn158_1) | exact hn158_1) (.int .i64 ((rd_T44 l0 x14_1).f1))).trans hx158_2; replace hx158_0 := (cell_far (p := ⟨gb157, 2, none⟩) (by first | (rw [add_block]; exact hn158_2) | (show (Addr.add _ _).block ≠ _; rw [add_block]; exact hn158_2) | exact hn158_2) (.int .i64 ((rd_T44 l0 x14_1).f2))).trans hx158_0; replace hx158_1 := (cell_far (p := ⟨gb157, 2, none⟩) (by first | (rw [add_block]; exact hn158_2) | (show (Addr.add _ _).block ≠ _; rw [add_block]; exact hn158_2) | exact hn158_2) (.int .i64 ((rd_T44 l0 x14_1).f2))).trans hx158_1; replace hx158_2 := (cell_far (p := ⟨gb157, 2, none⟩) (by first | (rw [add_block]; exact hn158_2) | (show (Addr.add _ _).block ≠ _; rw [add_block]; exact hn158_2) | exact hn158_2) (.int .i64 ((rd_T44 l0 x14_1).f2))).trans hx158_2; (try have hy158_0 := fun (n_ : Nat) => (show (((((w11.drewN n_).setCell ⟨gb157, 0, none⟩ (.int .i64 ((rd_T44 l0 x14_1).f0))).setCell ⟨gb157, 1, none⟩ (.int .i64 ((rd_T44 l0 x14_1).f1))).setCell ⟨gb157, 2, none⟩ (.int .i64 ((rd_T44 l0 x14_1).f2)))).cell? _ = some _ from hx158_0)); (try have hy158_1 := fun (n_ : Nat) => (show (((((w11.drewN n_).setCell ⟨gb157, 0, none⟩ (.int .i64 ((rd_T44 l0 x14_1).f0))).setCell ⟨gb157, 1, none⟩ (.int .i64 ((rd_T44 l0 x14_1).f1))).setCell ⟨gb157, 2, none⟩ (.int .i64 ((rd_T44 l0 x14_1).f2)))).cell? _ = some _ from hx158_1)); (try have hy158_2 := fun (n_ : Nat) => (show (((((w11.drewN n_).setCell ⟨gb157, 0, none⟩ (.int .i64 ((rd_T44 l0 x14_1).f0))).setCell ⟨gb157, 1, none⟩ (.int .i64 ((rd_T44 l0 x14_1).f1))).setCell ⟨gb157, 2, none⟩ (.int .i64 ((rd_T44 l0 x14_1).f2)))).cell? _ = some _ from hx158_2)); clear hn158_0; clear hn158_1; clear hn158_2; replace p158 := eq_true p158; replace q158 := eq_true q158)); try go_wp2_with (first | ((with_reducible refine gate_dst (N := 6) rfl ?_); refine box_event ?hg (N := 6) ?hd (cs := #[.int .i64 0, .int .i64 0, .int .i64 0]) (t := 44) ?hr ?_; (case hd => rfl); (case hg => rfl); (case hr => first | (go_simp; done) | (go_simp; rfl)); intro gb157 hg w11 hbox hb; have n0_ := Aside0.mk (below_step (by repeat (first | (with_reducible first | exact HB.out | apply below_alloc | apply pw_below_drewN | apply below_drew1) | exact HB.out)) hb); have n1_ := Aside0.mk (hbox); have n2_ := Aside0.mk ((by rw [hg]; exact (below_size (by repeat (first | (with_reducible first | exact HB.out | apply below_alloc | apply pw_below_drewN | apply below_drew1) | exact HB.out))) : w.heap.size ≤ gb157)); have n3_ := Aside0.mk ((by rw [hg]; exact (below_size (by repeat (first | (with_reducible first | exact HB.out | apply below_alloc | apply pw_below_drewN | apply below_drew1) | exact HB.out))) : w.heap.size ≤ gb157)); clear HB; have HB := n0_; have BK157 := n1_; have GW157 := n2_; have GE157 := n3_; clear n0_ n1_ n2_ n3_; clear hb hbox hg; have hcz12_0 : w11.cell? ⟨gb157, 0, none⟩ = some (.int .i64 0) := (blk_cell BK157.out 0).trans rfl; have hcz12_1 : w11.cell? ⟨gb157, 1, none⟩ = some (.int .i64 0) := (blk_cell BK157.out 1).trans rfl; have hcz12_2 : w11.cell? ⟨gb157, 2, none⟩ = some (.int .i64 0) := (blk_cell BK157.out 2).trans rfl; have hfz12_0 := blk_frozen BK157.out 0; have hfz12_1 := blk_frozen BK157.out 1; have hfz12_2 := blk_frozen BK157.out 2; have p158 : 0 ≤ (x14_1 : Int) := of_decide_eq_true (by first | (with_reducible assumption) | assumption); have q158 : x14_1 < (l1.length : Int) := of_decide_eq_true (by first | (with_reducible assumption) | assumption); obtain ⟨ad158, e158, hx158_0, hx158_1, hx158_2⟩ := at_T44 HR1.out x14_1 p158 q158; cases e158; have hn158_0 : ad158.block ≠ gb157 := Nat.ne_of_lt (Nat.lt_of_lt_of_le (by have := World.block_lt_of_cell? _ _ hx158_0; first | rwa [add_block] at this | exact this) GW157.out); have hn158_1 : ad158.block ≠ gb157 := Nat.ne_of_lt (Nat.lt_of_lt_of_le (by have := World.block_lt_of_cell? _ _ hx158_0; first | rwa [add_block] at this | exact this) GW157.out); have hn158_2 : ad158.block ≠ gb157 := Nat.ne_of_lt (Nat.lt_of_lt_of_le (by have := World.block_lt_of_cell? _ _ hx158_0; first | rwa [add_block] at this | exact this) GW157.out); replace hx158_0 := (HB.out.cell (World.block_lt_of_cell? w _ hx158_0)).trans hx158_0; replace hx158_1 := (HB.out.cell (World.block_lt_of_cell? w _ hx158_1)).trans hx158_1; replace hx158_2 := (HB.out.cell (World.block_lt_of_cell? w _ hx158_2)).trans hx158_2; replace hx158_0 := (cell_far (p := ⟨gb157, 0, none⟩) (by first | (rw [add_block]; exact hn158_0) | (show (Addr.add _ _).block ≠ _; rw [add_block]; exact hn158_0) | exact hn158_0) (.int .i64 ((rd_T44 l0 x14_1).f0))).trans hx158_0; replace hx158_1 := (cell_far (p := ⟨gb157, 0, none⟩) (by first | (rw [add_block]; exact hn158_0) | (show (Addr.add _ _).block ≠ _; rw [add_block]; exact hn158_0) | exact hn158_0) (.int .i64 ((rd_T44 l0 x14_1).f0))).trans hx158_1; replace hx158_2 := (cell_far (p := ⟨gb157, 0, none⟩) (by first | (rw [add_block]; exact hn158_0) | (show (Addr.add _ _).block ≠ _; rw [add_block]; exact hn158_0) | exact hn158_0) (.int .i64 ((rd_T44 l0 x14_1).f0))).trans hx158_2; replace hx158_0 := (cell_far (p := ⟨gb157, 1, none⟩) (by first | (rw [add_block]; exact hn158_1) | (show (Addr.add _ _).block ≠ _; rw [add_block]; exact hn158_1) | exact hn158_1) (.int .i64 ((rd_T44 l0 x14_1).f1))).trans hx158_0; replace hx158_1 := (cell_far (p := ⟨gb157, 1, none⟩) (by first | (rw [add_block]; exact hn158_1) | (show (Addr.add _ _).block ≠ _; rw [add_block]; exact hn158_1) | exact hn158_1) (.int .i64 ((rd_T44 l0 x14_1).f1))).trans hx158_1; replace hx158_2 := (cell_far (p := ⟨gb157, 1, none⟩) (by first | (rw [add_block]; exact hn158_1) | (show (Addr.add _ _).block ≠ _; rw [add_block]; exact hn158_1) | exact hn158_1) (.int .i64 ((rd_T44 l0 x14_1).f1))).trans hx158_2; replace hx158_0 := (cell_far (p := ⟨gb157, 2, none⟩) (by first | (rw [add_block]; exact hn158_2) | (show (Addr.add _ _).block ≠ _; rw [add_block]; exact hn158_2) | exact hn158_2) (.int .i64 ((rd_T44 l0 x14_1).f2))).trans hx158_0; replace hx158_1 := (cell_far (p := ⟨gb157, 2, none⟩) (by first | (rw [add_block]; exact hn158_2) | (show (Addr.add _ _).block ≠ _; rw [add_block]; exact hn158_2) | exact hn158_2) (.int .i64 ((rd_T44 l0 x14_1).f2))).trans hx158_1; replace hx158_2 := (cell_far (p := ⟨gb157, 2, none⟩) (by first | (rw [add_block]; exact hn158_2) | (show (Addr.add _ _).block ≠ _; rw [add_block]; exact hn158_2) | exact hn158_2) (.int .i64 ((rd_T44 l0 x14_1).f2))).trans hx158_2; (try have hy158_0 := fun (n_ : Nat) => (show (((((w11.drewN n_).setCell ⟨gb157, 0, none⟩ (.int .i64 ((rd_T44 l0 x14_1).f0))).setCell ⟨gb157, 1, none⟩ (.int .i64 ((rd_T44 l0 x14_1).f1))).setCell ⟨gb157, 2, none⟩ (.int .i64 ((rd_T44 l0 x14_1).f2)))).cell? _ = some _ from hx158_0)); (try have hy158_1 := fun (n_ : Nat) => (show (((((w11.drewN n_).setCell ⟨gb157, 0, none⟩ (.int .i64 ((rd_T44 l0 x14_1).f0))).setCell ⟨gb157, 1, none⟩ (.int .i64 ((rd_T44 l0 x14_1).f1))).setCell ⟨gb157, 2, none⟩ (.int .i64 ((rd_T44 l0 x14_1).f2)))).cell? _ = some _ from hx158_1)); (try have hy158_2 := fun (n_ : Nat) => (show (((((w11.drewN n_).setCell ⟨gb157, 0, none⟩ (.int .i64 ((rd_T44 l0 x14_1).f0))).setCell ⟨gb157, 1, none⟩ (.int .i64 ((rd_T44 l0 x14_1).f1))).setCell ⟨gb157, 2, none⟩ (.int .i64 ((rd_T44 l0 x14_1).f2)))).cell? _ = some _ from hx158_2)); clear hn158_0; clear hn158_1; clear hn158_2; replace p158 := eq_true p158; replace q158 := eq_true q158)))
         go_roundg k1
         case measure => have := HK1.out; omega
         case rel => exact ⟨(wrap64 (x14_1 + 1)), (by first | rfl | (simp; done) | (simp [*]; done) | (simp [isEmpty_bne]; done)), H', ⟨by have := HK1.out; omega⟩, ⟨by repeat (first | (with_reducible first | exact HB.out | apply below_alloc | apply pw_below_drewN | apply below_drew1 | refine below_set ?_ GE157.out) | exact HB.out)⟩⟩
       ·rw [if_neg c7] at H
        exact absurd H (by simp)
      ·rw [if_neg c6] at H
       exact absurd H (by simp)
     ·rw [if_neg c5] at H
      exact absurd H (by simp)
    ·rw [if_neg c4] at H
     have c4b0 : decide (x14_1 < (l0.length : Int)) = false := decide_eq_false c4
     clear c4
     obtain rfl := Option.some.inj H
     go_wp2
     repeat (go_quiet (fail); try go_wp2)
     go_ret
     exact ⟨by first | rfl | (simp [errW_none, errW_some] <;> rfl) | (simp [*, errW_none, errW_some] <;> rfl), by repeat (first | (with_reducible first | exact HB.out | apply below_alloc | apply pw_below_drewN | apply below_drew1) | exact HB.out)⟩
 ·rw [if_neg c3] at H
  have c3b0 : ((l0.length : Int) == (l1.length : Int)) = false := beq_eq_false_iff_ne.mpr c3
  have c3b1 : ((l0.length : Int) != (l1.length : Int)) = true := bne_iff_ne.mpr c3
  have c3b2 : (l0.length == l1.length) = false := by first | simpa using c3 | (simp at c3 ⊢; omega)
  obtain rfl := Option.some.inj H
  go_enter Try.func76, Try.ntmps76
  go_wp2
  repeat (go_quiet (fail); try go_wp2)
  go_ret
  exact ⟨by first | rfl | (simp [errW_none, errW_some] <;> rfl) | (simp [*, errW_none, errW_some] <;> rfl), by repeat (first | (with_reducible first | exact HB.out | apply below_alloc | apply pw_below_drewN | apply below_drew1) | exact HB.out)⟩

/-! ### glossatorref3_Mod: function 112 -/
def glossatorref3_Mod.f (a0 : Int) (a1 : Int) : Option (Int) := if a1 = 0 then (none) else (if (Int.tmod a0 a1) < 0 then (some (wrap64 ((Int.tmod a0 a1) + a1))) else (some (Int.tmod a0 a1)))
set_option maxHeartbeats 8000000 in
set_option maxRecDepth 100000 in
theorem glossatorref3_Mod.calls (a0 : Int) (a1 : Int) (r : Int) (w : World) (h : glossatorref3_Mod.f a0 a1 = some r) :
  Calls Try.prog 112 #[.int .i64 a0, .int .i64 a1] w fun e w' => e = .returned (.int .i64 r) ∧ Drawn0 w w' := by
 have H : (if a1 = 0 then (none) else (if (Int.tmod a0 a1) < 0 then (some (wrap64 ((Int.tmod a0 a1) + a1))) else (some (Int.tmod a0 a1)))) = some r := h
 clear h
 by_cases c3 : a1 = 0
 ·rw [if_pos c3] at H
  exact absurd H (by simp)
 ·rw [if_neg c3] at H
  have c3b0 : (a1 == 0) = false := beq_eq_false_iff_ne.mpr c3
  have c3b1 : (a1 != 0) = true := bne_iff_ne.mpr c3
  by_cases c4 : (Int.tmod a0 a1) < 0
  ·rw [if_pos c4] at H
   have c4b0 : decide ((Int.tmod a0 a1) < 0) = true := decide_eq_true c4
   clear c4
   obtain rfl := Option.some.inj H
   go_enter Try.func112, Try.ntmps112
   go_wp2
   go_ret
   exact ⟨by first | rfl | (simp; done) | (simp [*]; done), by repeat (first | exact Drawn0.refl _ | apply Drawn0.step)⟩
  ·rw [if_neg c4] at H
   have c4b0 : decide ((Int.tmod a0 a1) < 0) = false := decide_eq_false c4
   clear c4
   obtain rfl := Option.some.inj H
   go_enter Try.func112, Try.ntmps112
   go_wp2
   go_ret
   exact ⟨by first | rfl | (simp; done) | (simp [*]; done), by repeat (first | exact Drawn0.refl _ | apply Drawn0.step)⟩

-- NOT PRINTED: function 110 (glossatorref3_Exec)

end Go.Proofs.Ytbfedkmiekbcmaa.QQuerylangReads
