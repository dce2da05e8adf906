/-
  ProgressAssembler: the law's walk.
-/
import Derived.Test.YtogpjenmfgpfiaaHandPa8
import Derived.Outline
import Derived.Deep.DeepCutAuto
import Derived.Deep.QuietTactic
import Derived.BigQuiet
namespace Go.Proofs.Ytogpjenmfgpfiaa.QProgressAssembler
open Go.RowKit Go.Proofs.YtogpjenmfgpfiaaW.PrintWords Go.Proofs.YtogpjenmfgpfiaaW.PrintLast Go.Proofs.YtogpjenmfgpfiaaW.PrintMore Go.Proofs.Ytogpjenmfgpfiaa.Hand Go.Proofs.Ytogpjenmfgpfiaa.Aid
set_option linter.unusedVariables false
set_option linter.unusedSimpArgs false
theorem min30 (a : Nat) (ats : Array TypeId) (ty : TypeId) : Builtin.min_ ats ty #[.int .i64 (a : Int), .int .i64 30] = pure (.int .i64 ((min a 30 : Nat) : Int)) := by
  rw [min_two]
  simp only [min2_int, pure_bind]
  congr 2
  repeat' split
  all_goals omega
/-- What Add leaves, in one form. -/
theorem AddQ.form {w : World} {ab om : Nat} {ms : List (Int × Tk)} {c : S51} {e : Ending} {w' : World} (h : AddQ w ab om ms c e w') (hI : AsI ab om ms w) :
    ∃ b n ms1, e = .returned (.tuple #[.bool b, .int .i64 n]) ∧ AddP ms c b n ms1 ∧ AsI ab om ms1 w' ∧ Chg (fun k => k = om ∨ k ∈ ms.map (fun p => p.2.b)) w w' ∧ ∀ p ∈ ms1, p.2.b ∈ ms.map (fun p => p.2.b) ∨ w.heap.size ≤ p.2.b := by
  have hself : ∀ p ∈ ms, p.2.b ∈ ms.map (fun p => p.2.b) ∨ w.heap.size ≤ p.2.b := fun p hp => .inl (List.mem_map_of_mem (f := fun p : Int × Tk => p.2.b) hp)
  rcases h with ⟨h1, rfl, hb⟩ | ⟨h1, h2, h3, ⟨h4, rfl, hb⟩ | ⟨h4, ⟨r, hr, hb, h⟩ | ⟨hn, f, g, hB, ⟨hC, rfl, hb⟩ | ⟨hC, rfl, q, r, hr, hI', hc, hq⟩⟩⟩⟩
  · exact ⟨_, _, ms, rfl, .inl ⟨h1, rfl, rfl, rfl⟩, hI.below hb, Chg.of_new hb, hself⟩
  · exact ⟨_, _, ms, rfl, .inr ⟨h1, h2, h3, .inl ⟨h4, rfl, rfl, rfl⟩⟩, hI.below hb, Chg.of_new hb, hself⟩
  · rcases h with ⟨h5, h6, rfl⟩ | ⟨h5, rfl⟩
    · exact ⟨_, _, ms, rfl, .inr ⟨h1, h2, h3, .inr ⟨h4, .inl ⟨r, hr, rfl, rfl, .inl ⟨h5, h6, rfl⟩⟩⟩⟩, hI.below hb, Chg.of_new hb, hself⟩
    · exact ⟨_, _, ms, rfl, .inr ⟨h1, h2, h3, .inr ⟨h4, .inl ⟨r, hr, rfl, rfl, .inr ⟨h5, rfl⟩⟩⟩⟩, hI.below hb, Chg.of_new hb, hself⟩
  · exact ⟨_, _, ms, rfl, .inr ⟨h1, h2, h3, .inr ⟨h4, .inr ⟨hn, f, g, hB, .inl ⟨hC, rfl, rfl, rfl⟩⟩⟩⟩, hI.below hb, Chg.of_new hb, hself⟩
  · have htb : ∀ k, some k = tb ms c.f0 → k ∈ ms.map (fun p => p.2.b) := fun k hk => by
      unfold tb at hk
      cases e : mget ms c.f0 with
      | none => rw [e] at hk; cases hk
      | some x =>
        rw [e] at hk
        injection hk with hk
        rw [hk]
        exact List.mem_map_of_mem (f := fun p : Int × Tk => p.2.b) (mget_mem e)
    refine ⟨_, _, _, rfl, .inr ⟨h1, h2, h3, .inr ⟨h4, .inr ⟨hn, f, g, hB, .inr ⟨hC, rfl, rfl, q, r, hr, rfl⟩⟩⟩⟩, hI', hc.mono (fun k _ hk => hk.imp_right (htb k)), fun p hp => ?_⟩
    rcases mem_mset hp with e | e
    · rw [e]
      exact hq.imp_left (fun h => htb q h.symm)
    · exact hself p e
theorem AsmR.len {st : List S51} {t : Int} {l : List (Int × Ck)} {res : List Int × Bool} (hres : AsmR l res) (h : RelT st t l) : res.1.length ≤ 9223372036854775807 := by
  rcases hres with ⟨F, rfl, _, r, hr, _⟩ | ⟨rfl, _⟩
  · have := catL_len (l := l) (fun s => h.len3 s) (F + 1)
    have h2 : (F : Int) < 1000 := (h.key _ (mget_mem hr)).2.2.1
    show (catL l (F + 1)).length ≤ _
    omega
  · decide
theorem ResQ.form {w w' : World} {ms : List (Int × Tk)} {t : Int} {e : Ending} {st : List S51} {res : List Int × Bool} (h : ResQ w ms t e w') (hR : RelT st t (tk ms t)) (hres : AsmR (tk ms t) res) :
    ∃ v, e = .returned (.tuple #[v, .bool res.2]) ∧ Kd.R (Kd.int .i64) 3 w' w.heap.size (fun _ => True) v res.1 ∧ Below w.heap.size w w' := by
  obtain ⟨f, g, hB, hb, h⟩ := h
  rcases hR.res hB hres with ⟨h1, rfl⟩ | ⟨h1, h2, rfl⟩
  · rcases h with ⟨_, rfl⟩ | ⟨h3, h4, _⟩
    · exact ⟨_, rfl, Kd.R_nil _ _ _ _ _, hb⟩
    · omega
  · rcases h with ⟨h3, _⟩ | ⟨_, _, v, rfl, hv⟩
    · omega
    · exact ⟨v, rfl, hv, hb⟩
theorem RelT.top_lt {st : List S51} {t : Int} {l : List (Int × Ck)} (h : RelT st t l) {f g : Int} (hB : Bnd l f g) : g < 1000 := by
  rcases hB.top with ⟨e1, _⟩ | ⟨q, hq, e⟩
  · omega
  · have := (h.key q hq).2.2.1; omega
/-- What the rounds keep. -/
def okB (om : Nat) (ms : List (Int × Tk)) (k : Nat) : Prop := k ≠ om ∧ k ∉ ms.map (fun p => p.2.b)
def LawI (w : World) (ab om i : Nat) (ms : List (Int × Tk)) (st : List S51) (V : Option Addr) (cv : Nat) (W : World) : Prop :=
  AsI ab om ms W ∧ Rel st ms ∧ st.length ≤ i ∧ Kd.V k51 51 W W.heap.size (okB om ms) (.slice V st.length cv) st ∧ Below w.heap.size w W ∧ w.heap.size ≤ om ∧ ∀ p ∈ ms, w.heap.size ≤ p.2.b
theorem cell_below {w W : World} (hb : Below w.heap.size w W) {a : Addr} {v : Value} (h : w.cell? a = some v) : W.cell? a = some v := by
  have hlt := World.block_lt_of_cell? w _ h
  unfold World.cell? at h ⊢
  rw [hb.block _ hlt]
  exact h
set_option maxRecDepth 100000 in
set_option maxHeartbeats 16000000 in
theorem law_calls (A0 : Option Addr) (c0 : Nat) (l0 : List S51) (a1 : Int) (w : World) (hr0 : Kd.C k51 w A0 l0.length l0) (hc0 : l0.length ≤ c0) (hlim : ∀ v ∈ l0, v.f3.length < 17592186044416) :
    Calls Try.prog 4 #[.slice A0 l0.length c0, .int .i64 a1] w fun e w' => e = .returned (.bool true) ∧ Below w.heap.size w w' := by
  have HR0 := Aside0.mk hr0
  have HC0 := Aside0.mk hc0
  have HLIM := Aside0.mk hlim
  obtain ⟨kx, hkx⟩ := example_ev
  have HKX := Aside0.mk hkx
  clear hr0 hc0 hlim hkx
  have hmin := min30 l0.length
  obtain ⟨n, hn⟩ : ∃ n, min l0.length 30 = n := ⟨_, rfl⟩
  rw [hn] at hmin
  have HN := Aside0.mk (show n ≤ l0.length ∧ n ≤ 30 by omega)
  have s0 := eq_true (show (n : Int) ≤ (c0 : Int) by have := HC0.out; omega)
  have s1 := eq_true (show n ≤ c0 by have := HC0.out; omega)
  clear hn
  go_enter Try.func4, Try.ntmps4
  go_upto_region 7 with (first | (go_at_call 17; refine (glossatorlaw3_chunkExample.calls kx true _ HKX.out).mono ?_; rintro e w1 ⟨rfl, hb1⟩; have HB1 := Aside0.mk hb1; clear hb1) | (go_at_call 18; refine (new_calls _).mono ?_; rintro e w2 ⟨ab, om, rfl, hI2, hb2, hs2, hm2⟩; have HI2 := Aside0.mk hI2; have HB2 := Aside0.mk (HB1.out.trans (hb2.mono HB1.out.size)); have HM2 := Aside0.mk (Nat.le_trans HB1.out.size hm2); clear hI2 hb2 hs2 hm2))
  go_wp2
  go_loopg [6, 29] n (fun kq v6 v29 W => ∃ (i : Nat) (ms : List (Int × Tk)) (st : List S51) (V : Option Addr) (cv : Nat), v6 = .slice V st.length cv ∧ v29 = .int .i64 (i : Int) ∧ kq + i = n ∧ Aside0 (LawI w ab om i ms st V cv W))
  case atStart => exact ⟨0, [], [], none, 0, rfl, rfl, by omega, ⟨HI2.out, fun t => ⟨rfl, (fun q hq => by cases hq), List.nodup_nil, (fun q hq => by cases hq)⟩, Nat.le_refl _, Kd.V_nil _ _ _ _ _, HB2.out, HM2.out, (fun p hp => by cases hp)⟩⟩
  case round =>
    obtain ⟨i, ms, st, V, cv, rfl, rfl, hi, hI⟩ := hrel
    cases gk with
    | zero =>
      have HR := Aside0.mk (hI.out.2.1 a1)
      have hb : decide ((i : Int) < (n : Int)) = false := decide_eq_false (by omega)
      have hb' : decide (i < n) = false := decide_eq_false (by omega)
      have HIN := Aside0.mk (show i ≤ 30 by have := HN.out; omega)
      clear hi hmin s0 s1
      go_upto_region 16 with (fail)
      clear hb hb'
      have hst : st.length ≤ 140737488355328 := by have := hI.out.2.2.1; have := HIN.out; omega
      have HST := Aside0.mk hst
      obtain ⟨res, ⟨ka, hka⟩, hres⟩ := HR.out.assemble hst
      have HLL := Aside0.mk (show (tk ms a1).length ≤ 1000 by
        have h1 := congrArg List.length HR.out.eq
        rw [List.length_map] at h1
        have h2 := List.length_filter_le (fun s : S51 => decide (s.f0 = a1)) st
        have := hI.out.2.2.1
        have := HIN.out
        omega)
      obtain ⟨kq, hkq⟩ := eqR_f res.1 res.1 (hres.len HR.out)
      rw [decide_eq_true rfl] at hkq
      have HKA := Aside0.mk (show glossatorref3_Assemble.f ka st a1 = some (res.1, res.2) from hka)
      have HRES := Aside0.mk hres
      have HKQ := Aside0.mk hkq
      have HVR := Aside0.mk (Kd.V_reads' hI.out.2.2.2.1)
      have hbb : (res.2 == res.2) = true := by simp
      clear hst hka hres hkq
      go_upto_region 18 with (first | (go_at_call 21; refine (result_calls hI.out.1 a1 (fun q hq => ⟨(HR.out.key q hq).2.1, (HR.out.key q hq).2.2.1⟩) HLL.out (fun s => HR.out.len3 s)).mono ?_; rintro e w3 hQ; obtain ⟨v3, rfl, hv3, hb3⟩ := hQ.form HR.out HRES.out; obtain ⟨V3, c3, hw3⟩ := Kd.R_slice hv3; subst hw3; have HV3 := Aside0.mk hv3; have HB3 := Aside0.mk hb3; clear hv3 hb3 hQ) | (go_at_call 22; refine (glossatorref3_Assemble.calls ka V cv st a1 res.1 res.2 _ (Kd.C_below HVR.out.2.2 HB3.out) HVR.out.2.1 HKA.out).mono ?_; rintro e w4 ⟨v4, rfl, hv4, hb4⟩; obtain ⟨V4, c4, hw4⟩ := Kd.R_slice hv4; subst hw4; have HV4 := Aside0.mk hv4; have HB4 := Aside0.mk hb4; have HB34 := Aside0.mk (HB3.out.trans (hb4.mono HB3.out.size)); clear hv4 hb4))
      go_wp2_with (first | (go_at_call 17; refine (glossatorlaw3_chunkExample.calls kx true _ HKX.out).mono ?_; rintro e w5 ⟨rfl, hb5⟩; have HB5 := Aside0.mk hb5; clear hb5) | (go_at_call 24; refine (missing_calls (hI.out.1.below (HB34.out.trans ((HB5.out.trans (HB6.out.mono HB5.out.size)).mono HB34.out.size))) a1 (fun q hq => ⟨(HR.out.key q hq).2.1, (HR.out.key q hq).2.2.1⟩)).mono ?_; rintro e w7 ⟨f, g, hB, hb7, v7, rfl, hv7⟩; obtain ⟨V7, c7, hw7⟩ := Kd.R_slice hv7; subst hw7; obtain ⟨km, hkm⟩ := HR.out.missing HST.out hB; have HKM := Aside0.mk hkm; obtain ⟨ke, hke⟩ := eqR_f (missL (tk ms a1) g.toNat) (missL (tk ms a1) g.toNat) (by have h1 := missL_len (tk ms a1) g.toNat; have h2 := HR.out.top_lt hB; omega); rw [decide_eq_true rfl] at hke; have HKE := Aside0.mk hke; have HV7 := Aside0.mk hv7; have HB7 := Aside0.mk hb7; have HB47 := Aside0.mk (HB34.out.trans (((HB5.out.trans (HB6.out.mono HB5.out.size)).trans (hb7.mono (HB5.out.trans (HB6.out.mono HB5.out.size)).size)).mono HB34.out.size)); clear hkm hke hv7 hb7 hB) | (go_at_call 25; refine (glossatorref3_Missing.calls km V cv st a1 (missL (tk ms a1) g.toNat) _ (Kd.C_below HVR.out.2.2 HB47.out) HVR.out.2.1 HKM.out).mono ?_; rintro e w8 ⟨v8, rfl, hv8, hb8⟩; obtain ⟨V8, c8, hw8⟩ := Kd.R_slice hv8; subst hw8; have HV8 := Aside0.mk hv8; have HB8 := Aside0.mk hb8; clear hv8 hb8) | (go_at_call 23; refine (glossatorref3_Equal_int.calls ke V7 c7 _ V8 c8 _ true _ (Kd.R_reads' (Kd.R_below HV7.out HB8.out)).2.2 (Kd.R_reads' HV7.out).2.1 (Kd.R_reads' HV8.out).2.2 (Kd.R_reads' HV8.out).2.1 HKE.out).mono ?_; rintro e w9 ⟨rfl, hd9⟩; have HB9 := Aside0.mk ((Chg.drawn (S := fun _ => False) hd9).to_below (fun _ _ e => e.elim) (Nat.le_refl _)); clear hd9) | (go_at_call 23; refine (glossatorref3_Equal_int.calls kq V3 c3 res.1 V4 c4 res.1 true _ (Kd.R_reads' (Kd.R_below HV3.out (HB4.out.trans (HB5.out.mono HB4.out.size)))).2.2 (Kd.R_reads' HV3.out).2.1 (Kd.R_reads' (Kd.R_below HV4.out HB5.out)).2.2 (Kd.R_reads' HV4.out).2.1 HKQ.out).mono ?_; rintro e w6 ⟨rfl, hd6⟩; have HB6 := Aside0.mk ((Chg.drawn (S := fun _ => False) hd6).to_below (fun _ _ e => e.elim) (Nat.le_refl _)); clear hd6))
      go_ret
      have hbe := hI.out.2.2.2.2.1.trans (HB47.out.mono hI.out.2.2.2.2.1.size)
      exact ⟨rfl, hbe.trans ((HB8.out.trans (HB9.out.mono HB8.out.size)).mono hbe.size)⟩
    | succ k2 =>
      have hb : decide ((i : Int) < (n : Int)) = true := decide_eq_true (by omega)
      have hb' : decide (i < n) = true := decide_eq_true (by omega)
      have hil : i < l0.length := by have := HN.out; omega
      obtain ⟨c, hc⟩ : ∃ c, rd_T51 l0 (i : Int) = c := ⟨_, rfl⟩
      obtain ⟨ad, A3, c3, rfl, x0, x1, x2, x3, hl3, hi3⟩ := at_T51 HR0.out (i : Int) (by omega) (by omega)
      rw [hc] at x0 x1 x2 x3 hl3 hi3
      rw [Int.toNat_natCast] at x0 x1 x2 x3
      have x0 := cell_below hI.out.2.2.2.2.1 x0
      have x1 := cell_below hI.out.2.2.2.2.1 x1
      have x2 := cell_below hI.out.2.2.2.2.1 x2
      have x3 := cell_below hI.out.2.2.2.2.1 x3
      have hcm : c ∈ l0 := by rw [← hc]; unfold rd_T51; rw [Int.toNat_natCast, List.getD_eq_getElem?_getD, List.getElem?_eq_getElem hil]; exact List.getElem_mem hil
      have HL3 := Aside0.mk hl3
      have HI3 := Aside0.mk hi3
      have HLC := Aside0.mk (HLIM.out c hcm)
      have r0 := eq_true (show (0 : Int) ≤ (i : Int) by omega)
      have r1 := eq_true (show (i : Int) < (n : Int) by omega)
      have r2 := eq_true (show i < n by omega)
      clear hc hcm hl3 hi3 hil
      go_upto_region 10 with (fail)
      obtain ⟨W5, hW5⟩ : ∃ W5, wr.alloc (.cells #[.int .i64 c.f0, .int .i64 c.f1, .bool c.f2, .slice A3 c.f3.length c3] 51) = W5 := ⟨_, rfl⟩
      have hb5 : Below wr.heap.size wr W5 := by rw [← hW5]; exact below_alloc (Below.refl _ _) _
      have hk5 : W5.heap[wr.heap.size]? = some (.cells #[.int .i64 c.f0, .int .i64 c.f1, .bool c.f2, .slice A3 c.f3.length c3] 51 (0, 0)) := by rw [← hW5]; exact hb_new _ _
      rw [hW5]
      clear hW5 x0 x1 x2 x3 r0 r1 r2 hb hb'
      obtain ⟨g1, g2, g3, g4, g5, g6, g7⟩ := hI.out
      have HI5 := Aside0.mk (g1.below hb5)
      have HK5 := Aside0.mk hk5
      have HW5 := Aside0.mk (g5.trans (hb5.mono g5.size))
      have HT := Aside0.mk (g2 c.f0)
      have HREL := Aside0.mk g2
      have HV5 := Aside0.mk (Kd.V_below g4 hb5)
      have HOM := Aside0.mk g6
      have HBL := Aside0.mk g7
      have HSL := Aside0.mk g3
      have HNB := Aside0.mk (show wr.heap.size ≠ om ∧ wr.heap.size ∉ ms.map (fun p => p.2.b) from ⟨fun e => by have := g1.2.1.lt; omega, fun e => by
        obtain ⟨p, hp, e⟩ := List.mem_map.1 e
        have := g1.mem_lt hp
        omega⟩)
      have HCK := Aside0.mk (show ∀ W', Chg (fun k => k = om) W5 W' → Kd.C (Kd.int .i64) W' A3 c.f3.length c.f3 from fun W' hc => Kd.C_below HI3.out (HW5.out.trans (hc.to_below (fun k _ e => by rw [e]; exact HOM.out) HW5.out.size)))
      have HLEN := Aside0.mk (show st.length < 1000 by have := HN.out; have := HSL.out; omega)
      have HLS := Aside0.mk (show ∀ s ∈ st, s.f3.length ≤ 1000 from fun s hs => by
        have h := g2 s.f0
        have : s ∈ st.filter (fun x => decide (x.f0 = s.f0)) := List.mem_filter.2 ⟨hs, by simp⟩
        rw [h.eq] at this
        obtain ⟨q, hq, rfl⟩ := List.mem_map.1 this
        exact (h.key q hq).2.2.2)
      have x0 : W5.cell? ⟨wr.heap.size, 0, none⟩ = some (.int .i64 c.f0) := (cells_of_blk hk5 0).trans rfl
      have x1 : W5.cell? ⟨wr.heap.size, 1, none⟩ = some (.int .i64 c.f1) := (cells_of_blk hk5 1).trans rfl
      have x2 : W5.cell? ⟨wr.heap.size, 2, none⟩ = some (.bool c.f2) := (cells_of_blk hk5 2).trans rfl
      have x3 : W5.cell? ⟨wr.heap.size, 3, none⟩ = some (.slice A3 c.f3.length c3) := (cells_of_blk hk5 3).trans rfl
      clear hb5 hk5 g1 g2 g3 g4 g5 g6 g7
      go_upto_region 11 with (go_at_call 19; refine (add_calls HI5.out c A3 c3 HCK.out HL3.out HLC.out (fun q hq => ⟨(HT.out.key q hq).2.1, (HT.out.key q hq).2.2.1⟩) (fun s => HT.out.len3 s)).mono ?_; rintro e w7 hA; obtain ⟨b1, n1, ms1, rfl, hP, hI7, hC7, hB7⟩ := AddQ.form hA HI5.out; have HP := Aside0.mk hP; have HI7 := Aside0.mk hI7; have HC7 := Aside0.mk hC7; have HB7 := Aside0.mk hB7; clear hA hP hI7 hC7 hB7)
      clear x0 x1 x2 x3 HCK
      have hk7 : w7.heap[wr.heap.size]? = some (.cells #[.int .i64 c.f0, .int .i64 c.f1, .bool c.f2, .slice A3 c.f3.length c3] 51 (0, 0)) := HC7.out.at HK5.out (fun e => e.elim HNB.out.1 HNB.out.2)
      have HW7 := Aside0.mk (HW5.out.trans (HC7.out.to_below (B := w.heap.size) (fun k _ e => e.elim (fun e => by rw [e]; exact HOM.out) (fun e => by
        obtain ⟨p, hp, rfl⟩ := List.mem_map.1 e
        exact HBL.out p hp)) HW5.out.size))
      have hB7' : ∀ p ∈ ms1, w.heap.size ≤ p.2.b := fun p hp => by
        rcases HB7.out p hp with h | h
        · obtain ⟨p', hp', e⟩ := List.mem_map.1 h
          rw [← e]
          exact HBL.out p' hp'
        · exact Nat.le_trans HW5.out.size h
      have HBL7 := Aside0.mk hB7'
      have HV7 := Aside0.mk (show Kd.V k51 51 w7 w7.heap.size (okB om ms1) (.slice V st.length cv) st from Kd.V_mono (Kd.V_step (Kd.V_bound HV5.out) (fun k hk hlt => HC7.out.block k hlt (fun e => e.elim hk.1.1 hk.1.2))) (fun k hk => ⟨hk.1.1, fun e => by
        obtain ⟨p, hp, e⟩ := List.mem_map.1 e
        rcases HB7.out p hp with h | h
        · exact hk.1.2 (e ▸ h)
        · have := hk.2
          omega⟩))
      have HF7 := Aside0.mk (show Kd.F (Kd.int .i64) w7 (okB om ms1) A3 c.f3.length c.f3 from Kd.F_mono (Kd.F_below (Kd.C_F (Kd.heap_int .i64) HI3.out) HW7.out) (fun k hk => ⟨fun e => by have := HOM.out; omega, fun e => by
        obtain ⟨p, hp, e⟩ := List.mem_map.1 e
        have := HBL7.out p hp
        omega⟩))
      have x0 : w7.cell? ⟨wr.heap.size, 0, none⟩ = some (.int .i64 c.f0) := (cells_of_blk hk7 0).trans rfl
      have x1 : w7.cell? ⟨wr.heap.size, 1, none⟩ = some (.int .i64 c.f1) := (cells_of_blk hk7 1).trans rfl
      have x2 : w7.cell? ⟨wr.heap.size, 2, none⟩ = some (.bool c.f2) := (cells_of_blk hk7 2).trans rfl
      have x3 : w7.cell? ⟨wr.heap.size, 3, none⟩ = some (.slice A3 c.f3.length c3) := (cells_of_blk hk7 3).trans rfl
      clear hk7 hB7'
      go_upto_region 12 with (go_at_call 20; refine (addC_calls V cv st c A3 c3 HV7.out HF7.out HL3.out HLEN.out HLS.out).mono ?_; rintro e w8 ⟨v8, st8, b8, n8, rfl, hV8, hb8, hR8⟩; obtain ⟨V8, c8, hv8⟩ := Kd.V_slice hV8; subst hv8; obtain ⟨rfl, rfl, hrel8⟩ := HREL.out.agree HP.out hR8; have HI8 := Aside0.mk (HI7.out.below hb8); have HV8 := Aside0.mk hV8; have HB8 := Aside0.mk hb8; have HREL8 := Aside0.mk hrel8; have HR8 := Aside0.mk hR8; clear hV8 hb8 hR8 hrel8)
      have hbb : (b1 != b1) = false := by simp
      have hnn : (n1 != n1) = false := by simp
      clear x0 x1 x2 x3 HK5 HI5 HV5 HF7 HR0
      go_wp2
      go_roundg k2
      case measure => omega
      case rel =>
        refine ⟨i + 1, ms1, st8, V8, c8, rfl, by congr 1; have := HN.out; unfold wrap64; omega, by omega, ⟨HI8.out, HREL8.out, ?_, ?_, HW7.out.trans (HB8.out.mono HW7.out.size), HOM.out, HBL7.out⟩⟩
        · have := HSL.out
          rcases HR8.out with ⟨_, rfl, _⟩ | ⟨_, _, _, ⟨_, rfl, _⟩ | ⟨_, ⟨_, rfl, _⟩ | ⟨_, rfl, _⟩ | ⟨_, rfl, _⟩⟩⟩ <;> simp <;> omega
        · refine Kd.V_mono HV8.out (fun k hk => hk.elim id (fun h => ⟨fun e => by have := HI7.out.2.1.lt; omega, fun e => ?_⟩))
          obtain ⟨p, hp, e⟩ := List.mem_map.1 e
          have := HI7.out.mem_lt hp
          omega
end Go.Proofs.Ytogpjenmfgpfiaa.QProgressAssembler
