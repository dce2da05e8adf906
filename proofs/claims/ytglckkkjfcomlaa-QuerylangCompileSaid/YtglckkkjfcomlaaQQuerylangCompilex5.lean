-- Written by gen.py (this repo's wip/), which runs the kit's print.py with more arms. Lean checks it.
import Derived.Test.YtglckkkjfcomlaaQQuerylangCompilex0
import Derived.Test.YtglckkkjfcomlaaQQuerylangCompilex3
import Derived.Test.YtglckkkjfcomlaaQQuerylangCompilex4
namespace Go.Proofs.Ytglckkkjfcomlaa.QQuerylangCompile
open Go.RowKit Go.Proofs.YtglckkkjfcomlaaW.PrintWords Go.Proofs.YtglckkkjfcomlaaW.PrintLast Go.Proofs.YtglckkkjfcomlaaW.PrintMore
attribute [local go_sem] max2_int min2_int max_two min_two max_three min_three max_four min_four   -- for this text's walks alone
set_option linter.unusedVariables false
set_option linter.unusedSimpArgs false

section
open Go.Proofs.Ytglckkkjfcomlaa.Hand
theorem info_3 : (Try.prog.info? 3).map (fun i => (i.zero, i.size, i.bytes)) = some (some (.int .i64 0), 1, 8) := by kernel_rfl
set_option maxHeartbeats 4000000 in
theorem pop_calls (sb : Nat) (ad : Addr) (n c : Nat) (x : Int) (w : World) (hb : w.heap[sb]? = some (.cells #[.slice (some ad) (n + 1) c] 29 (0, 0))) (hc : n + 1 ≤ c) (hn : (n : Int) ≤ 9223372036854775806) (hx : w.cell? (ad.add n) = some (.int .i64 x)) :
    Calls Try.prog 165 #[.pointer (some ⟨sb, 0, none⟩)] w fun e w' => e = .returned (.int .i64 x) ∧ w' = w.setCell ⟨sb, 0, none⟩ (.slice (some ad) n c) := by
  have h0 := cell_of_blk hb
  have hf := free_of_blk hb 0
  have p1 : ((n : Int) + 1 - 1) = (n : Int) := by omega
  go_enter Try.func165, Try.ntmps165
  go_wp2
  go_ret
  exact ⟨rfl, rfl⟩

/-- What is told of the function that run is handed: it answers as G does and keeps I; it turns what is its own (S), and what is new. -/
structure Oracle (B gf : Nat) (pre caps : Array Value) {σ : Type} (G : σ → Int → Int → Int → Option (Int × σ)) (I : σ → (Nat → Prop) → World → Prop) : Prop where
  lt : ∀ {s S W} {k : Nat}, I s S W → S k → k < W.heap.size
  keep : ∀ {s S W W'}, I s S W → Chg (fun k => ¬ S k ∧ B ≤ k) W W' → I s S W'
  enters : ∀ args (w : World), (callFunc gf args).run Try.prog w = .ok (.enter gf args) w
  goes : ∀ {s S W k1 k2 k3 n s'}, I s S W → G s k1 k2 k3 = some (n, s') →
    Calls Try.prog gf (pre ++ #[.agg #[.int .i64 k1, .int .i64 k2, .int .i64 k3]] ++ caps) W fun e w' => e = .returned (.int .i64 n) ∧ ∃ S', I s' S' w' ∧ Chg S W w' ∧ ∀ k, S' k → S k ∨ W.heap.size ≤ k
def popP (st : List Int) : Option (Int × List Int) := match st.getLast? with
  | none => none
  | some x => some (x, st.dropLast)
theorem popP_some {st st' : List Int} {x : Int} (h : popP st = some (x, st')) : ∃ m, st.length = m + 1 ∧ st' = st.take m ∧ rd st (m : Int) = x := by
  unfold popP at h
  cases e : st.getLast? with
  | none => rw [e] at h; cases h
  | some y =>
    rw [e] at h
    injection h with h
    injection h with h1 h2
    subst h1
    have hne : st ≠ [] := by rintro rfl; cases e
    have hpos := List.length_pos_iff.2 hne
    refine ⟨st.length - 1, by omega, by rw [← h2, List.dropLast_eq_take], ?_⟩
    rw [List.getLast?_eq_getElem?] at e
    simp [rd, List.getD_eq_getElem?_getD, e]
theorem pop_stack (sb : Nat) (v : Value) (st st' : List Int) (x : Int) (ok : Nat → Prop) (w : World) (hb : w.heap[sb]? = some (.cells #[v] 29 (0, 0))) (hv : Kd.R (Kd.int .i64) 3 w (sb + 1) ok v st) (hp : popP st = some (x, st')) :
    Calls Try.prog 165 #[.pointer (some ⟨sb, 0, none⟩)] w fun e w' => e = .returned (.int .i64 x) ∧ ∃ v', w'.heap[sb]? = some (.cells #[v'] 29 (0, 0)) ∧ Kd.R (Kd.int .i64) 3 w' (sb + 1) ok v' st' ∧ Chg (fun k => k = sb) w w' := by
  obtain ⟨m, hm, rfl, hx⟩ := popP_some hp
  obtain ⟨g, cap, rfl, hg1, hg2, _⟩ := Kd.R_form hv (by omega)
  obtain ⟨_, hl2, hC⟩ := Kd.R_reads' hv
  obtain ⟨ad, hA, hcx⟩ := Kd.at_int hC (m : Int) (by omega) (by omega)
  cases hA
  rw [Int.toNat_natCast, hx] at hcx
  rw [hm] at hb hl2
  have hlm := hC.2.1
  refine (pop_calls sb ⟨g, 0, none⟩ m cap x w hb hl2 (by omega) hcx).mono ?_
  rintro e w' ⟨rfl, rfl⟩
  refine ⟨rfl, _, hb_set hb 0 _, ?_, Chg.set _ _ _ rfl⟩
  have h1 := Kd.R_take hv (m := m) (by omega)
  exact Kd.R_mono (Kd.R_step (Kd.R_bound h1) (fun k hk _ => Below.heap_setCell _ _ _ _ (by have := hk.2.1; show k ≠ sb; omega))) (fun _ hk => hk.1)
def pushP {σ : Type} (st : List Int) (r : Int) (s : σ) : Option (List Int × σ) := if st.length < 17592186044416 then some (st ++ [r], s) else none
def stepP {σ : Type} (G : σ → Int → Int → Int → Option (Int × σ)) (kf : Nat) (index : Int) (op : S160) (st : List Int) (s : σ) : Option (List Int × σ) :=
  (if op.f0 = 4 ∨ op.f0 = 5 then popP st else some (0, st)).bind fun p =>
  (querylang_operandKey.f kf op.f0 op.f1 op.f2 index p.1).bind fun q =>
  if q.2.2.2 = true then (G s q.1 q.2.1 q.2.2.1).bind fun r => pushP p.2 r.1 r.2
  else if op.f0 = 1 then (querylang_reduce.f op.f1).bind fun r => pushP p.2 r s
  else (popP p.2).bind fun y => (popP y.2).bind fun x => (querylang_binary.f op.f0 x.1 y.1).bind fun r => pushP x.2 r s
def runL {σ : Type} (G : σ → Int → Int → Int → Option (Int × σ)) (kf : Nat) (index : Int) : List S160 → List Int → σ → Option (Int × σ)
  | [], st, s => match st with
    | [] => none
    | x :: _ => some (x, s)
  | op :: t, st, s => (stepP G kf index op st s).bind fun p => runL G kf index t p.1 p.2
/-- In a round, behind the first pop. -/
def RunM {σ : Type} (I : σ → (Nat → Prop) → World → Prop) (sb : Nat) (s1 : σ) (S1 : Nat → Prop) (W : World) (op : S160) (v : Value) (st : List Int) (wc : World) : Prop :=
  wc.heap[sb]? = some (.cells #[v] 29 (0, 0)) ∧ Kd.R (Kd.int .i64) 3 wc (sb + 1) (fun k => ¬ S1 k) v st ∧ wc.heap[W.heap.size]? = some (.cells #[.int .i64 op.f0, .int .i64 op.f1, .int .i64 op.f2] 160 (0, 0)) ∧ I s1 S1 wc ∧
    Chg (fun k => k = sb) W wc
/-- Between two rounds. -/
def RunI {σ : Type} (G : σ → Int → Int → Int → Option (Int × σ)) (I : σ → (Nat → Prop) → World → Prop) (kf : Nat) (index : Int) (ops : List S160) (n : Int) (s' : σ) (S : Nat → Prop) (w : World) (i : Nat) (W : World) : Prop :=
  ∃ (st : List Int) (s1 : σ) (S1 : Nat → Prop) (v : Value), runL G kf index (ops.drop i) st s1 = some (n, s') ∧ W.heap[w.heap.size]? = some (.cells #[v] 29 (0, 0)) ∧ Kd.R (Kd.int .i64) 3 W (w.heap.size + 1) (fun k => ¬ S1 k) v st ∧
    I s1 S1 W ∧ Chg S w W ∧ w.heap.size < W.heap.size ∧ (∀ k, S1 k → S k ∨ w.heap.size < k)
def RunPost {σ : Type} (I : σ → (Nat → Prop) → World → Prop) (n : Int) (s' : σ) (S : Nat → Prop) (w : World) (e : Ending) (w' : World) : Prop :=
  e = .returned (.int .i64 n) ∧ ∃ S', I s' S' w' ∧ Chg S w w' ∧ ∀ k, S' k → S k ∨ w.heap.size ≤ k
theorem push_runI {σ : Type} {B gf : Nat} {pre caps : Array Value} {G : σ → Int → Int → Int → Option (Int × σ)} {I : σ → (Nat → Prop) → World → Prop} (O : Oracle B gf pre caps G I) {kf : Nat} {index : Int} {ops : List S160} {n m : Int} {s' s4 : σ} {S S4 : Nat → Prop} {w w4 w5 : World} {i : Nat} {st : List Int} {v4 v5 : Value}
    (hR : runL G kf index (ops.drop (i + 1)) (st ++ [m]) s4 = some (n, s')) (hb4 : w4.heap[w.heap.size]? = some (.cells #[v4] 29 (0, 0))) (hv4 : Kd.R (Kd.int .i64) 3 w4 (w.heap.size + 1) (fun k => ¬ S4 k) v4 st) (hI4 : I s4 S4 w4) (hc4 : Chg S w w4)
    (hS4 : ∀ k, S4 k → S k ∨ w.heap.size < k) (hS0 : ∀ k, S k → k < w.heap.size) (hB : B ≤ w.heap.size) (ho5 : Kd.R (Kd.int .i64) 3 w5 (w.heap.size + 1) (fun k => ¬ S4 k) v5 (st ++ [m])) (hg5 : w4.grownBy w5 v4.ownBlock) :
    RunI G I kf index ops n s' S w (i + 1) (w5.setCell ⟨w.heap.size, 0, none⟩ v5) := by
  have hb5 : w5.heap[w.heap.size]? = some (.cells #[v4] 29 (0, 0)) := (hg5.block _ (lt_of_blk hb4) (fun e => by have := Kd.R_base hv4 _ e.symm; omega)).trans hb4
  have hsb : ¬ S4 w.heap.size := fun h => by rcases hS4 _ h with h | h; (have := hS0 _ h; omega); omega
  refine ⟨st ++ [m], s4, S4, v5, hR, hb_set hb5 0 _, ?_, ?_, ?_, ?_, hS4⟩
  · exact Kd.R_mono (Kd.R_step (Kd.R_bound ho5) (fun k hk _ => Below.heap_setCell _ _ _ _ (by have := hk.2.1; show k ≠ w.heap.size; omega))) (fun _ hk => hk.1)
  · refine O.keep hI4 (Chg.trans (Chg.of_grown hg5 (fun k e => ?_)) (Chg.set _ _ _ ⟨hsb, hB⟩) (fun _ _ h => h))
    exact ⟨hv4.1 k e, by have := Kd.R_base hv4 k e; omega⟩
  · refine (hc4.trans (Chg.of_grown hg5 (fun k e => e) : Chg (fun k => v4.ownBlock = some k) _ _) (fun k hk e => ?_)).trans (Chg.set (S := fun k => k = w.heap.size) _ _ _ rfl) (fun k hk e => ?_)
    · have := Kd.R_base hv4 k e; omega
    · omega
  · simpa using lt_of_blk hb5
set_option maxHeartbeats 8000000 in
set_option maxRecDepth 100000 in
theorem run_calls {σ : Type} {B gf : Nat} {pre caps : Array Value} {G : σ → Int → Int → Int → Option (Int × σ)} {I : σ → (Nat → Prop) → World → Prop} (O : Oracle B gf pre caps G I) (kf : Nat) (A0 : Option Addr) (c0 : Nat) (ops : List S160) (index : Int) (s s' : σ) (n : Int) (S : Nat → Prop) (w : World)
    (hops : ∀ W', Chg S w W' → Kd.C k160 W' A0 ops.length ops) (hc0 : ops.length ≤ c0) (hI : I s S w) (hS0 : ∀ k, S k → k < w.heap.size) (hB : B ≤ w.heap.size) (h : runL G kf index ops [] s = some (n, s')) :
    Calls Try.prog 90 #[.slice A0 ops.length c0, .int .i64 index, .func (.func gf) pre caps] w (RunPost I n s' S w) := by
  have hlen : ops.length ≤ 9223372036854775807 := (hops w (Chg.refl _ _)).2.1
  have HOPS := Aside0.mk hops
  have HI := Aside0.mk hI
  have HS0 := Aside0.mk hS0
  have HBB := Aside0.mk hB
  have HO := Aside0.mk O
  have H := Aside0.mk h
  have HC := Aside0.mk hc0
  clear hops hI O h hc0 hS0 hB
  go_enter Try.func90, Try.ntmps90
  go_wp2
  go_loopg [19] ops.length (fun kq v19 W => ∃ i : Nat, v19 = .int .i64 (i : Int) ∧ kq + i = ops.length ∧ Aside0 (RunI G I kf index ops n s' S w i W))
  case atStart =>
    refine ⟨0, rfl, by omega, ⟨[], s, S, .slice none 0 0, H.out, ?_, Kd.R_nil _ _ _ _ _, HO.out.keep HI.out (Chg.alloc _ _), Chg.alloc _ _, by simp, ?_⟩⟩
    · exact hb_new _ _
    · exact fun k hk => .inl hk
  case round =>
    obtain ⟨i, rfl, hi, hR⟩ := hrel
    cases gk with
    | zero =>
      obtain rfl : i = ops.length := by omega
      obtain ⟨st, s1, S1, v, hrun, hb, hv, hI, hch, hsz, hS⟩ := hR.out
      rw [List.drop_length] at hrun
      cases st with
      | nil => cases hrun
      | cons x t =>
        injection hrun with hrun
        injection hrun with h1 h2
        subst h1 h2
        obtain ⟨A, c, hv1, hl, hC⟩ := Kd.R_reads hv
        subst hv1
        obtain ⟨ad, hA, hx⟩ := Kd.at_int hC 0 (by omega) (by simp)
        cases hA
        have hx2 : wr.cell? ad = some (.int .i64 x) := by
          have e : ad.add (Int.toNat 0) = ad := by simp [Addr.add]
          rw [e] at hx
          exact hx
        clear hx
        have hcell := cell_of_blk hb
        have HV := Aside0.mk hv
        have HI1 := Aside0.mk hI
        have HCH := Aside0.mk hch
        have HS := Aside0.mk hS
        clear hv hI hch hS hb hC hi hR hl H HOPS HI HO
        go_wp2
        go_ret
        exact ⟨rfl, S1, HI1.out, HCH.out, fun k hk => (HS.out k hk).imp_right Nat.le_of_lt⟩
    | succ k1 =>
      have hlt : i < ops.length := by omega
      obtain ⟨st, s1, S1, v, hrun, hb, hv, hI, hch, hsz, hS⟩ := hR.out
      rw [List.drop_eq_getElem_cons hlt, runL] at hrun
      obtain ⟨⟨st2, s2⟩, hstep, hrun2⟩ := Option.bind_eq_some_iff.1 hrun
      obtain ⟨ad0, hA0, o0, o1, o2⟩ := at_T160 (HOPS.out wr hch) (i : Int) (by omega) (by omega)
      subst hA0
      have hop : rd_T160 ops (i : Int) = ops[i] := by simp [rd_T160, List.getD_eq_getElem?_getD, hlt]
      rw [hop, Int.toNat_natCast] at o0 o1 o2
      obtain ⟨op, hopn⟩ : ∃ op, ops[i] = op := ⟨_, rfl⟩
      rw [hopn] at o0 o1 o2 hstep
      clear hop hopn
      have p1 : (0 ≤ (i : Int)) = True := eq_true (by omega)
      have p2 : ((i : Int) < (ops.length : Int)) = True := eq_true (by omega)
      have hcell := cell_of_blk hb
      have HV := Aside0.mk hv
      have HI1 := Aside0.mk hI
      have HCH := Aside0.mk hch
      have HS := Aside0.mk hS
      have HR := Aside0.mk hrun2
      have HST := Aside0.mk hstep
      have HB := Aside0.mk hb
      clear hv hI hch hS hb hR H HI hrun hrun2 hstep
      unfold stepP at HST
      obtain ⟨⟨nn, st1⟩, hpop, hst0⟩ := Option.bind_eq_some_iff.1 HST.out
      obtain ⟨⟨r1, r2, r3, r4⟩, hkey, hst⟩ := Option.bind_eq_some_iff.1 hst0
      clear hst0
      have HP := Aside0.mk hpop
      have HKEY := Aside0.mk hkey
      have HST2 := Aside0.mk hst
      clear hpop hkey hst HST
      have hal : Chg (fun k => k = w.heap.size) wr (wr.alloc (.cells #[.int .i64 op.f0, .int .i64 op.f1, .int .i64 op.f2] 160)) := Chg.alloc _ _
      have HAL := Aside0.mk hal
      clear hal
      have HV2 : Aside0 (Kd.R (Kd.int .i64) 3 (wr.alloc (.cells #[.int .i64 op.f0, .int .i64 op.f1, .int .i64 op.f2] 160)) (w.heap.size + 1) (fun k => ¬ S1 k) v st) := ⟨Kd.R_below HV.out (below_alloc (Below.refl _ _) _)⟩
      have hsz1 : wr.heap.size < (wr.alloc (.cells #[.int .i64 op.f0, .int .i64 op.f1, .int .i64 op.f2] 160)).heap.size := by simp
      have close : ∀ (wc : World) (v1 : Value), wc.heap[w.heap.size]? = some (.cells #[v1] 29 (0, 0)) → Kd.R (Kd.int .i64) 3 wc (w.heap.size + 1) (fun k => ¬ S1 k) v1 st1 →
          Chg (fun k => k = w.heap.size) (wr.alloc (.cells #[.int .i64 op.f0, .int .i64 op.f1, .int .i64 op.f2] 160)) wc → RunM I w.heap.size s1 S1 wr op v1 st1 wc := by
        intro wc v1 h1 h2 h3
        have h4 := (HAL.out.trans h3 (fun _ _ h => h))
        refine ⟨h1, h2, h3.at (hb_new _ _) (by omega), HO.out.keep HI1.out (h4.mono (fun k _ hk => ⟨fun hS1 => ?_, by rw [hk]; exact HBB.out⟩)), h4⟩
        subst hk
        rcases HS.out _ hS1 with h | h
        · have := HS0.out _ h; omega
        · omega
      have HCL := Aside0.mk close
      clear close
      have b45 : ((op.f0 == 4) = true ∧ popP st = some (nn, st1)) ∨ ((op.f0 == 4) = false ∧ (op.f0 == 5) = true ∧ popP st = some (nn, st1)) ∨ ((op.f0 == 4) = false ∧ (op.f0 == 5) = false ∧ nn = 0 ∧ st1 = st) := by
        have := HP.out
        by_cases c4 : op.f0 = 4
        · rw [if_pos (.inl c4)] at this; exact .inl ⟨by simp [c4], this⟩
        · by_cases c5 : op.f0 = 5
          · rw [if_pos (.inr c5)] at this; exact .inr (.inl ⟨by simp [c4], by simp [c5], this⟩)
          · rw [if_neg (by omega)] at this
            injection this with this
            injection this with h1 h2
            exact .inr (.inr ⟨by simp [c4], by simp [c5], h1.symm, h2.symm⟩)
      clear HP
      rcases b45 with ⟨b4, hp⟩ | ⟨b4, b5, hp⟩ | ⟨b4, b5, rfl, rfl⟩
      all_goals
        first
          | (have HP2 := Aside0.mk hp
             clear hp
             go_upto_region 9 with (go_at_call 165; refine (pop_stack _ _ _ _ _ _ _ (hb_alloc HB.out) HV2.out HP2.out).mono ?_; rintro e wc ⟨rfl, v1, hb1, hv1, hch1⟩)
             have HM := Aside0.mk (HCL.out _ _ hb1 hv1 hch1)
             clear hb1 hv1 hch1 b4
             try clear b5)
          | (go_upto_region 9 with (fail)
             have HM := Aside0.mk (HCL.out _ _ (hb_alloc HB.out) HV2.out (Chg.refl _ _))
             obtain ⟨v1, hv1_⟩ : ∃ v1, v1 = v := ⟨_, rfl⟩
             rw [← hv1_] at HM
             clear b4 b5 hv1_
             generalize wr.alloc (.cells #[.int .i64 op.f0, .int .i64 op.f1, .int .i64 op.f2] 160) = wc at HM ⊢)
      all_goals
        clear HCL HV2 HAL hsz1 HB HV hcell o0 o1 o2 p1 p2
        obtain ⟨hb1, hv1, hcop, hI1, hc1⟩ := HM.out
        clear HM
        have q0 : wc.cell? ⟨wr.heap.size, 0, none⟩ = some (.int .i64 op.f0) := by rw [cells_of_blk hcop]; rfl
        have q1 : wc.cell? ⟨wr.heap.size, 1, none⟩ = some (.int .i64 op.f1) := by rw [cells_of_blk hcop]; rfl
        have q2 : wc.cell? ⟨wr.heap.size, 2, none⟩ = some (.int .i64 op.f2) := by rw [cells_of_blk hcop]; rfl
        have hcs : Chg S w wc := HCH.out.trans hc1 (fun k hk e => by subst e; exact absurd hk (Nat.lt_irrefl _))
        have HB1 := Aside0.mk hb1
        have HV1 := Aside0.mk hv1
        have HOP := Aside0.mk hcop
        have HI2 := Aside0.mk hI1
        have HCS := Aside0.mk hcs
        have HWR := Aside0.mk (lt_of_blk hcop)
        clear hb1 hv1 hcop hI1 hc1 hcs
        cases r4 with
        | true =>
          obtain ⟨⟨m, sm⟩, hG, hpush⟩ := Option.bind_eq_some_iff.1 (show (G s1 r1 r2 r3).bind (fun r => pushP st1 r.1 r.2) = some (st2, s2) from HST2.out)
          unfold pushP at hpush
          split at hpush
          · next hlim =>
            injection hpush with hpush
            injection hpush with e1 e2
            subst e1 e2
            have HG := Aside0.mk hG
            have HLIM := Aside0.mk hlim
            clear hG hlim HST2
            go_upto_region 11 with (go_at_call 166; refine (querylang_operandKey.calls kf _ _ _ _ _ _ _ _ _ _ HKEY.out).mono ?_; rintro e w2 ⟨rfl, hb2⟩)
            have hbw : Below wc.heap.size wc (w2.alloc (.cells #[.int .i64 r1, .int .i64 r2, .int .i64 r3] 26)) := below_alloc hb2 _
            obtain ⟨W3, hW3⟩ : ∃ W3, W3 = w2.alloc (.cells #[.int .i64 r1, .int .i64 r2, .int .i64 r3] 26) := ⟨_, rfl⟩
            have hk3 : W3.heap[w2.heap.size]? = some (.cells #[.int .i64 r1, .int .i64 r2, .int .i64 r3] 26 (0, 0)) := by rw [hW3]; exact hb_new _ _
            rw [← hW3] at hbw ⊢
            obtain ⟨kb, hkb⟩ : ∃ kb, kb = w2.heap.size := ⟨_, rfl⟩
            have hkbs : wc.heap.size ≤ kb := by rw [hkb]; exact hb2.size
            rw [← hkb] at hk3 ⊢
            clear hW3 hkb hb2 q0 q1 q2
            have hb3 := (hbw.block _ (lt_of_blk HB1.out)).trans HB1.out
            have s0 := cell_of_blk hb3
            have sf := free_of_blk hb3 0
            have k0 : W3.cell? ⟨kb, 0, none⟩ = some (.int .i64 r1) := by rw [cells_of_blk hk3]; rfl
            have k1' : W3.cell? ⟨kb, 1, none⟩ = some (.int .i64 r2) := by rw [cells_of_blk hk3]; rfl
            have k2 : W3.cell? ⟨kb, 2, none⟩ = some (.int .i64 r3) := by rw [cells_of_blk hk3]; rfl
            have hS1sb : ¬ S1 w.heap.size := fun h => by rcases HS.out _ h with h | h; (have := HS0.out _ h; omega); omega
            have hS1kb : ¬ S1 kb := fun h => by have := HO.out.lt HI2.out h; omega
            have HV3 := Aside0.mk (Kd.R_below HV1.out hbw)
            have HI3 := Aside0.mk (HO.out.keep HI2.out (Chg.of_new hbw))
            have HC3 := Aside0.mk (HCS.out.trans (Chg.of_new hbw : Chg S wc W3) (fun _ _ h => h))
            have HB3 := Aside0.mk hb3
            have HK3 := Aside0.mk hk3
            have HN := Aside0.mk (show ¬ S1 w.heap.size ∧ ¬ S1 kb from ⟨hS1sb, hS1kb⟩)
            have hen := HO.out.enters
            clear hb3 hk3 hS1sb hS1kb hbw hkbs
            obtain ⟨V1, c1, hV1⟩ := Kd.R_slice HV3.out
            subst hV1
            clear s0 sf k0 k1' k2
            have hHold : W3.drew.cell? ⟨w.heap.size, 0, none⟩ = some (.slice V1 st1.length c1) ∧ W3.drew.cell? ⟨kb, 0, none⟩ = some (.int .i64 r1) ∧ W3.drew.cell? ⟨kb, 1, none⟩ = some (.int .i64 r2) ∧ W3.drew.cell? ⟨kb, 2, none⟩ = some (.int .i64 r3) :=
              ⟨cell_of_blk HB3.out, (cells_of_blk HK3.out 0).trans rfl, (cells_of_blk HK3.out 1).trans rfl, (cells_of_blk HK3.out 2).trans rfl⟩
            refine start_ (n := 7) (S := fun w' => w'.cell? ⟨w.heap.size, 0, none⟩ = some (.slice V1 st1.length c1) ∧ w'.cell? ⟨kb, 0, none⟩ = some (.int .i64 r1) ∧ w'.cell? ⟨kb, 1, none⟩ = some (.int .i64 r2) ∧ w'.cell? ⟨kb, 2, none⟩ = some (.int .i64 r3)) (ds := [6]) #[false, false, false, false, false, false, false] (by kernel_rfl) rfl rfl (hHold) (fun hHeld => ?_)
            clear hHold
            refine take_ (i := 0) (N := some 41) (v := ?_) (a' := ?_) #[true, false, false, false, false, false, false] rfl rfl (by kernel_rfl) (fun _ _ _ h => h) (Or.inl ⟨by rfl, ?_⟩) hHeld ?_ ?_
            rotate_left
            · rintro w' ⟨s0_, s1_, s2_, s3_⟩
              go_simp
              with_reducible rfl
            rotate_left
            · simp only [Act.put, List.setIfInBounds_toArray, List.set_cons_zero, List.set_cons_succ, i64_w, i32_w]
              rfl
            refine pure_ (i := 1) (N := some 42) (v := ?_) (a' := ?_) #[true, true, false, false, false, false, false] rfl rfl (by kernel_rfl) (fun _ _ _ h => h) (Or.inl ⟨by rfl, ?_⟩) ?_ ?_
            rotate_left
            · intro w'
              go_simp
              with_reducible rfl
            rotate_left
            · simp only [Act.put, List.setIfInBounds_toArray, List.set_cons_zero, List.set_cons_succ, i64_w, i32_w]
              rfl
            refine take_ (i := 2) (N := some 43) (v := ?_) (a' := ?_) #[true, true, true, false, false, false, false] rfl rfl (by kernel_rfl) (fun _ _ _ h => h) (Or.inl ⟨by rfl, ?_⟩) hHeld ?_ ?_
            rotate_left
            · rintro w' ⟨s0_, s1_, s2_, s3_⟩
              go_simp
              with_reducible rfl
            rotate_left
            · simp only [Act.put, List.setIfInBounds_toArray, List.set_cons_zero, List.set_cons_succ, i64_w, i32_w]
              rfl
            refine one_ (i := 3) (N := some 44) #[true, true, true, true, false, false, false] rfl rfl (by kernel_rfl) (by decide) (fun K hK => ?_)
            refine call_ gf (pre ++ #[.agg #[.int .i64 r1, .int .i64 r2, .int .i64 r3]] ++ caps) (by rfl) rfl (by simp [execOp, resolve, invoke, Deferred.ofValue, Act.eval, hen]) ?_
            refine (HO.out.goes (HO.out.keep HI3.out (Chg.drew _)) HG.out).mono ?_
            rintro e w4 ⟨rfl, S4, hI4, hc4, hS4⟩
            refine ⟨_, rfl, ?_⟩
            have hb4 := hc4.at HB3.out HN.out.1
            have hk4 := hc4.at HK3.out HN.out.2
            have hv4 : Kd.R (Kd.int .i64) 3 w4 (w.heap.size + 1) (fun k => ¬ S4 k) (.slice V1 st1.length c1) st1 :=
              Kd.R_mono (Kd.R_step (Kd.R_bound HV3.out) (fun k hk hlt => hc4.block k hlt hk.1)) (fun k hk h => (hS4 k h).elim hk.1 (fun h => absurd hk.2.2.1 (Nat.not_lt.2 h)))
            have hhe : ∀ W' : World, W'.heap[w.heap.size]? = w4.heap[w.heap.size]? → W'.heap[kb]? = w4.heap[kb]? → (W'.cell? ⟨w.heap.size, 0, none⟩ = some (.slice V1 st1.length c1) ∧ W'.cell? ⟨kb, 0, none⟩ = some (.int .i64 r1) ∧ W'.cell? ⟨kb, 1, none⟩ = some (.int .i64 r2) ∧ W'.cell? ⟨kb, 2, none⟩ = some (.int .i64 r3)) :=
              fun W' h1 h2 => ⟨cell_of_blk (h1.trans hb4), (cells_of_blk (h2.trans hk4) 0).trans rfl, (cells_of_blk (h2.trans hk4) 1).trans rfl, (cells_of_blk (h2.trans hk4) 2).trans rfl⟩
            have HHE := Aside0.mk hhe
            have HI4 := Aside0.mk hI4
            have HC4 := Aside0.mk hc4
            have HS4 := Aside0.mk hS4
            have HV4 := Aside0.mk hv4
            have HB4 := Aside0.mk hb4
            have HK4 := Aside0.mk hk4
            clear hI4 hc4 hS4 hv4 hb4 hk4 hhe
            refine hK.out _ _ (HHE.out _ rfl rfl) (fun hHeld => ?_)
            clear hK K
            refine norm_ (a' := ?_) ?_ ?_
            rotate_left
            · show Act.put _ (some 44) _ = _
              simp only [Act.put, List.setIfInBounds_toArray, List.set_cons_zero, List.set_cons_succ, i64_w, i32_w]
              rfl
            refine one_ (i := 4) (N := some 45) #[true, true, true, true, true, false, false] rfl rfl (by kernel_rfl) (by decide) (fun K hK => ?_)
            refine value_ (v := .slice (some ⟨w4.heap.size, 0, none⟩) 1 1) (w1 := w4.alloc (.cells #[.int .i64 m] 3)) (by rfl) rfl ?_ ?_
            · go_simp
            refine hK.out _ _ (HHE.out _ (Below.heap_alloc _ _ _ (lt_of_blk HB4.out)) (Below.heap_alloc _ _ _ (lt_of_blk HK4.out))) (fun hHeld => ?_)
            clear hK K
            refine norm_ (a' := ?_) ?_ ?_
            rotate_left
            · show Act.put _ (some 45) _ = _
              simp only [Act.put, List.setIfInBounds_toArray, List.set_cons_zero, List.set_cons_succ, i64_w, i32_w]
              rfl
            refine one_ (i := 5) (N := some 46) #[true, true, true, true, true, true, false] rfl rfl (by kernel_rfl) (by decide) (fun K hK => ?_)
            refine Kd.R_append_step (Kd.int .i64) (w0 := w4) (w.heap.size + 1) (by rfl) (.tmp 41) (.tmp 45) 29 3 (.int .i64 0) 8 rfl Try.underlying29 info_3 rfl (by decide) (by omega) (.slice V1 st1.length c1) st1 m [.int .i64 m] (fun k => ¬ S4 k) (fun _ => False) rfl rfl rfl (fun _ h => h.elim) (fun k hk h => absurd (HO.out.lt HI4.out h) (Nat.not_lt.2 hk)) HV4.out (Below.refl _ _) (lt_of_blk HB4.out) (by have := HLIM.out; omega) ?_
            intro v5 w5 ho5 hb5 hg5 hat5
            obtain ⟨V5, c5, hv5⟩ := Kd.R_slice ho5
            rw [List.length_append, List.length_singleton] at hv5
            subst hv5
            have e6 := hb5.block _ (Nat.lt_succ_self w.heap.size)
            have hb6 := e6.trans HB4.out
            have hk6 := hg5.block _ (lt_of_blk HK4.out) (Kd.R_ne HV4.out HK4.out (by decide))
            have HO5 := Aside0.mk ho5
            have HG5 := Aside0.mk hg5
            have HB6 := Aside0.mk hb6
            clear ho5 hg5 hb5 hat5 hb6
            refine hK.out _ _ (HHE.out _ e6 hk6) (fun hHeld => ?_)
            clear hK K
            refine norm_ (a' := ?_) ?_ ?_
            rotate_left
            · show Act.put _ (some 46) _ = _
              simp only [Act.put, List.setIfInBounds_toArray, List.set_cons_zero, List.set_cons_succ, i64_w, i32_w]
              rfl
            clear e6 hk6
            refine last_ (i := 6) (N := none) #[true, true, true, true, true, true, true] rfl rfl (by kernel_rfl) (by decide) (fun K hK => ?_)
            have s5 := cell_of_blk HB6.out
            have sf5 := free_of_blk HB6.out 0
            refine skip_ (w1 := w5.setCell ⟨w.heap.size, 0, none⟩ (.slice V5 (st1.length + 1) c5)) (by rfl) rfl ?_ ?_
            · go_simp
            refine hK.out _ _ (done_ (by kernel_rfl) ?_)
            clear hK K s5 sf5 hHeld hen
            have hw : wrap64 ((i : Int) + 1) = ((i + 1 : Nat) : Int) := by unfold wrap64; omega
            have HF := Aside0.mk (push_runI HO.out HR.out HB4.out HV4.out HI4.out ((HC3.out.trans (Chg.drew _ : Chg S W3 _) (fun _ _ h => h)).trans HC4.out (fun k hk h => (HS.out k h).resolve_right (by omega))) (fun k hk => (HS4.out k hk).elim (HS.out k) (fun h => .inr (by have := lt_of_blk HB3.out; have : W3.heap.size ≤ k := h; omega))) HS0.out HBB.out HO5.out HG5.out)
            go_wp2
            go_roundg k1
            case measure => omega
            case rel => exact ⟨i + 1, by first | rfl | rw [hw], by omega, HF⟩
          · cases hpush
        | false =>
          have HST3 : Aside0 ((if op.f0 = 1 then (querylang_reduce.f op.f1).bind (fun r => pushP st1 r s1) else (popP st1).bind fun y => (popP y.2).bind fun x => (querylang_binary.f op.f0 x.1 y.1).bind fun r => pushP x.2 r s1) = some (st2, s2)) := ⟨HST2.out⟩
          clear HST2
          by_cases cc : op.f0 = 1
          · have hst3 := HST3.out
            rw [if_pos cc] at hst3
            obtain ⟨m, hm, hpush⟩ := Option.bind_eq_some_iff.1 hst3
            unfold pushP at hpush
            split at hpush
            · next hlim =>
              injection hpush with hpush
              injection hpush with e1 e2
              subst e1 e2
              have HG := Aside0.mk hm
              have HLIM := Aside0.mk hlim
              have b1 : (op.f0 == 1) = true := by simp [cc]
              clear hm hlim HST3 hst3 cc
              go_upto_region 13 with (go_at_call 166; refine (querylang_operandKey.calls kf _ _ _ _ _ _ _ _ _ _ HKEY.out).mono ?_; rintro e w2 ⟨rfl, hb2⟩; (have hcc := (Below.cell (p := ⟨wr.heap.size, 0, none⟩) (below_alloc hb2 (.cells #[.int .i64 r1, .int .i64 r2, .int .i64 r3] 26)) HWR.out).trans q0))
              have hbw : Below wc.heap.size wc (w2.alloc (.cells #[.int .i64 r1, .int .i64 r2, .int .i64 r3] 26)) := below_alloc hb2 _
              obtain ⟨W3, hW3⟩ : ∃ W3, W3 = w2.alloc (.cells #[.int .i64 r1, .int .i64 r2, .int .i64 r3] 26) := ⟨_, rfl⟩
              rw [← hW3] at hbw ⊢
              clear hW3 q0 q1 q2 hcc b1
              have hb3 := (hbw.block _ (lt_of_blk HB1.out)).trans HB1.out
              have ho3 := (hbw.block _ (lt_of_blk HOP.out)).trans HOP.out
              have HV3 := Aside0.mk (Kd.R_below HV1.out hbw)
              have HI3 := Aside0.mk (HO.out.keep HI2.out (Chg.of_new hbw))
              have HC3 := Aside0.mk (HCS.out.trans (Chg.of_new hbw : Chg S wc W3) (fun _ _ h => h))
              have HB3 := Aside0.mk hb3
              have HO3 := Aside0.mk ho3
              clear hb3 ho3 hbw
              obtain ⟨V1, c1, hV1⟩ := Kd.R_slice HV3.out
              subst hV1
              have hHold : W3.drew.cell? ⟨w.heap.size, 0, none⟩ = some (.slice V1 st1.length c1) ∧ W3.drew.cell? ⟨wr.heap.size, 1, none⟩ = some (.int .i64 op.f1) :=
                ⟨cell_of_blk HB3.out, (cells_of_blk HO3.out 1).trans rfl⟩
              refine start_ (n := 7) (S := fun w' => w'.cell? ⟨w.heap.size, 0, none⟩ = some (.slice V1 st1.length c1) ∧ w'.cell? ⟨wr.heap.size, 1, none⟩ = some (.int .i64 op.f1)) (ds := [6]) #[false, false, false, false, false, false, false] (by kernel_rfl) rfl rfl (hHold) (fun hHeld => ?_)
              clear hHold
              refine take_ (i := 0) (N := some 50) (v := ?_) (a' := ?_) #[true, false, false, false, false, false, false] rfl rfl (by kernel_rfl) (fun _ _ _ h => h) (Or.inl ⟨by rfl, ?_⟩) hHeld ?_ ?_
              rotate_left
              · rintro w' ⟨s0_, s1_⟩
                go_simp
                with_reducible rfl
              rotate_left
              · simp only [Act.put, List.setIfInBounds_toArray, List.set_cons_zero, List.set_cons_succ, i64_w, i32_w]
                rfl
              refine pure_ (i := 1) (N := some 51) (v := ?_) (a' := ?_) #[true, true, false, false, false, false, false] rfl rfl (by kernel_rfl) (fun _ _ _ h => h) (Or.inl ⟨by rfl, ?_⟩) ?_ ?_
              rotate_left
              · intro w'
                go_simp
                with_reducible rfl
              rotate_left
              · simp only [Act.put, List.setIfInBounds_toArray, List.set_cons_zero, List.set_cons_succ, i64_w, i32_w]
                rfl
              refine take_ (i := 2) (N := some 52) (v := ?_) (a' := ?_) #[true, true, true, false, false, false, false] rfl rfl (by kernel_rfl) (fun _ _ _ h => h) (Or.inl ⟨by rfl, ?_⟩) hHeld ?_ ?_
              rotate_left
              · rintro w' ⟨s0_, s1_⟩
                go_simp
                with_reducible rfl
              rotate_left
              · simp only [Act.put, List.setIfInBounds_toArray, List.set_cons_zero, List.set_cons_succ, i64_w, i32_w]
                rfl
              refine one_ (i := 3) (N := some 53) #[true, true, true, true, false, false, false] rfl rfl (by kernel_rfl) (by decide) (fun K hK => ?_)
              refine goes_ Try.func92 (by kernel_rfl) rfl #[.int .i64 op.f1] (by rfl) rfl rfl (by (try simp only [List.map_toArray, List.map_cons, List.map_nil]); first | done | rfl) ?_
              refine (querylang_reduce.calls op.f1 m _ HG.out).mono ?_
              rintro e w4 ⟨rfl, hdr⟩
              refine ⟨_, rfl, ?_⟩
              have hc4 : Chg (fun _ => False) W3 w4 := (Chg.drew _).trans (Chg.drawn hdr) (fun _ _ h => h)
              have hb4 := hc4.at HB3.out (fun h => h)
              have ho4 := hc4.at HO3.out (fun h => h)
              have hv4 : Kd.R (Kd.int .i64) 3 w4 (w.heap.size + 1) (fun k => ¬ S1 k) (.slice V1 st1.length c1) st1 := Kd.R_step HV3.out (fun k _ hlt => hc4.block k hlt (fun h => h))
              have hhe : ∀ W' : World, W'.heap[w.heap.size]? = w4.heap[w.heap.size]? → W'.heap[wr.heap.size]? = w4.heap[wr.heap.size]? → (W'.cell? ⟨w.heap.size, 0, none⟩ = some (.slice V1 st1.length c1) ∧ W'.cell? ⟨wr.heap.size, 1, none⟩ = some (.int .i64 op.f1)) :=
                fun W' h1 h2 => ⟨cell_of_blk (h1.trans hb4), (cells_of_blk (h2.trans ho4) 1).trans rfl⟩
              have HHE := Aside0.mk hhe
              have HI4 := Aside0.mk (HO.out.keep HI3.out (hc4.mono (fun _ _ h => h.elim)))
              have HC4 := Aside0.mk (HC3.out.trans (hc4.mono (T := S) (fun _ _ h => h.elim)) (fun _ _ h => h))
              have HV4 := Aside0.mk hv4
              have HB4 := Aside0.mk hb4
              have HO4 := Aside0.mk ho4
              clear hc4 hv4 hb4 ho4 hhe hdr
              refine hK.out _ _ (HHE.out _ rfl rfl) (fun hHeld => ?_)
              clear hK K
              refine norm_ (a' := ?_) ?_ ?_
              rotate_left
              · show Act.put _ (some 53) _ = _
                simp only [Act.put, List.setIfInBounds_toArray, List.set_cons_zero, List.set_cons_succ, i64_w, i32_w]
                rfl
              refine one_ (i := 4) (N := some 54) #[true, true, true, true, true, false, false] rfl rfl (by kernel_rfl) (by decide) (fun K hK => ?_)
              refine value_ (v := .slice (some ⟨w4.heap.size, 0, none⟩) 1 1) (w1 := w4.alloc (.cells #[.int .i64 m] 3)) (by rfl) rfl ?_ ?_
              · go_simp
              refine hK.out _ _ (HHE.out _ (Below.heap_alloc _ _ _ (lt_of_blk HB4.out)) (Below.heap_alloc _ _ _ (lt_of_blk HO4.out))) (fun hHeld => ?_)
              clear hK K
              refine norm_ (a' := ?_) ?_ ?_
              rotate_left
              · show Act.put _ (some 54) _ = _
                simp only [Act.put, List.setIfInBounds_toArray, List.set_cons_zero, List.set_cons_succ, i64_w, i32_w]
                rfl
              refine one_ (i := 5) (N := some 55) #[true, true, true, true, true, true, false] rfl rfl (by kernel_rfl) (by decide) (fun K hK => ?_)
              refine Kd.R_append_step (Kd.int .i64) (w0 := w4) (w.heap.size + 1) (by rfl) (.tmp 50) (.tmp 54) 29 3 (.int .i64 0) 8 rfl Try.underlying29 info_3 rfl (by decide) (by omega) (.slice V1 st1.length c1) st1 m [.int .i64 m] (fun k => ¬ S1 k) (fun _ => False) rfl rfl rfl (fun _ h => h.elim) (fun k hk h => absurd (HO.out.lt HI4.out h) (Nat.not_lt.2 hk)) HV4.out (Below.refl _ _) (lt_of_blk HB4.out) (by have := HLIM.out; omega) ?_
              intro v5 w5 ho5 hb5 hg5 hat5
              obtain ⟨V5, c5, hv5⟩ := Kd.R_slice ho5
              rw [List.length_append, List.length_singleton] at hv5
              subst hv5
              have e6 := hb5.block _ (Nat.lt_succ_self w.heap.size)
              have hb6 := e6.trans HB4.out
              have hk6 := hg5.block _ (lt_of_blk HO4.out) (Kd.R_ne HV4.out HO4.out (by decide))
              have HO5 := Aside0.mk ho5
              have HG5 := Aside0.mk hg5
              have HB6 := Aside0.mk hb6
              clear ho5 hg5 hb5 hat5 hb6
              refine hK.out _ _ (HHE.out _ e6 hk6) (fun hHeld => ?_)
              clear hK K
              refine norm_ (a' := ?_) ?_ ?_
              rotate_left
              · show Act.put _ (some 55) _ = _
                simp only [Act.put, List.setIfInBounds_toArray, List.set_cons_zero, List.set_cons_succ, i64_w, i32_w]
                rfl
              clear e6 hk6
              refine last_ (i := 6) (N := none) #[true, true, true, true, true, true, true] rfl rfl (by kernel_rfl) (by decide) (fun K hK => ?_)
              have s5 := cell_of_blk HB6.out
              have sf5 := free_of_blk HB6.out 0
              refine skip_ (w1 := w5.setCell ⟨w.heap.size, 0, none⟩ (.slice V5 (st1.length + 1) c5)) (by rfl) rfl ?_ ?_
              · go_simp
              refine hK.out _ _ (done_ (by kernel_rfl) ?_)
              clear hK K s5 sf5 hHeld
              have hw : wrap64 ((i : Int) + 1) = ((i + 1 : Nat) : Int) := by unfold wrap64; omega
              have HF := Aside0.mk (push_runI HO.out HR.out HB4.out HV4.out HI4.out HC4.out HS.out HS0.out HBB.out HO5.out HG5.out)
              go_wp2
              go_roundg k1
              case measure => omega
              case rel => exact ⟨i + 1, by first | rfl | rw [hw], by omega, HF⟩
            · cases hpush
          · have b1 : (op.f0 == 1) = false := by simp [cc]
            have hst3 := HST3.out
            rw [if_neg cc] at hst3
            obtain ⟨⟨y, st4⟩, hy, hst4⟩ := Option.bind_eq_some_iff.1 hst3
            obtain ⟨⟨x, st5⟩, hx, hst5⟩ := Option.bind_eq_some_iff.1 hst4
            obtain ⟨m, hm, hpush⟩ := Option.bind_eq_some_iff.1 hst5
            unfold pushP at hpush
            split at hpush
            · next hlim =>
              injection hpush with hpush
              injection hpush with e1 e2
              subst e1 e2
              have HG := Aside0.mk hm
              have HLIM := Aside0.mk hlim
              have HY := Aside0.mk hy
              have HX := Aside0.mk hx
              clear hm hlim HST3 hst3 hst4 hst5 hy hx cc
              go_upto_region 14 with (go_at_call 166; refine (querylang_operandKey.calls kf _ _ _ _ _ _ _ _ _ _ HKEY.out).mono ?_; rintro e w2 ⟨rfl, hb2⟩; (have hcc := (Below.cell (p := ⟨wr.heap.size, 0, none⟩) (below_alloc hb2 (.cells #[.int .i64 r1, .int .i64 r2, .int .i64 r3] 26)) HWR.out).trans q0))
              have hbw : Below wc.heap.size wc (w2.alloc (.cells #[.int .i64 r1, .int .i64 r2, .int .i64 r3] 26)) := below_alloc hb2 _
              obtain ⟨W3, hW3⟩ : ∃ W3, W3 = w2.alloc (.cells #[.int .i64 r1, .int .i64 r2, .int .i64 r3] 26) := ⟨_, rfl⟩
              rw [← hW3] at hbw ⊢
              clear hW3 q0 q1 q2 hcc b1
              have hb3 := (hbw.block _ (lt_of_blk HB1.out)).trans HB1.out
              have ho3 := (hbw.block _ (lt_of_blk HOP.out)).trans HOP.out
              have HV3 := Aside0.mk (Kd.R_below HV1.out hbw)
              have HI3 := Aside0.mk (HO.out.keep HI2.out (Chg.of_new hbw))
              have HC3 := Aside0.mk (HCS.out.trans (Chg.of_new hbw : Chg S wc W3) (fun _ _ h => h))
              have HB3 := Aside0.mk hb3
              have HO3 := Aside0.mk ho3
              clear hb3 ho3 hbw
              go_upto_region 15 with (go_at_call 165; refine (pop_stack _ _ _ _ _ _ _ HB3.out HV3.out HY.out).mono ?_; rintro e w6 ⟨rfl, v6, hb6, hv6, hch6⟩)
              have HB6 := Aside0.mk hb6
              have HV6 := Aside0.mk hv6
              have HC6 := Aside0.mk hch6
              clear hb6 hv6 hch6
              go_upto_region 16 with (go_at_call 165; refine (pop_stack _ _ _ _ _ _ _ HB6.out HV6.out HX.out).mono ?_; rintro e w7 ⟨rfl, v7, hb7, hv7, hch7⟩)
              have hc7 : Chg (fun k => k = w.heap.size) W3 w7 := HC6.out.trans hch7 (fun _ _ h => h)
              have hnsb : ¬ S1 w.heap.size := fun h => by rcases HS.out _ h with h | h; (have := HS0.out _ h; omega); omega
              have ho7 := hc7.at HO3.out (by omega)
              have HI7 := Aside0.mk (HO.out.keep HI3.out (hc7.mono (fun k _ h => by subst h; exact ⟨hnsb, HBB.out⟩)))
              have HC7 := Aside0.mk (HC3.out.trans hc7 (fun k hk h => by omega))
              have HB7 := Aside0.mk hb7
              have HV7 := Aside0.mk hv7
              have HO7 := Aside0.mk ho7
              clear hb7 hv7 hch7 hc7 hnsb ho7
              obtain ⟨V1, c1, hV1⟩ := Kd.R_slice HV7.out
              subst hV1
              have hHold : w7.drew.cell? ⟨w.heap.size, 0, none⟩ = some (.slice V1 st5.length c1) ∧ w7.drew.cell? ⟨wr.heap.size, 0, none⟩ = some (.int .i64 op.f0) :=
                ⟨cell_of_blk HB7.out, (cells_of_blk HO7.out 0).trans rfl⟩
              refine start_ (n := 9) (S := fun w' => w'.cell? ⟨w.heap.size, 0, none⟩ = some (.slice V1 st5.length c1) ∧ w'.cell? ⟨wr.heap.size, 0, none⟩ = some (.int .i64 op.f0)) (ds := [8]) #[false, false, false, false, false, false, false, false, false] (by kernel_rfl) rfl rfl (hHold) (fun hHeld => ?_)
              clear hHold
              refine take_ (i := 0) (N := some 60) (v := ?_) (a' := ?_) #[true, false, false, false, false, false, false, false, false] rfl rfl (by kernel_rfl) (fun _ _ _ h => h) (Or.inl ⟨by rfl, ?_⟩) hHeld ?_ ?_
              rotate_left
              · rintro w' ⟨s0_, s1_⟩
                go_simp
                with_reducible rfl
              rotate_left
              · simp only [Act.put, List.setIfInBounds_toArray, List.set_cons_zero, List.set_cons_succ, i64_w, i32_w]
                rfl
              refine pure_ (i := 1) (N := some 61) (v := ?_) (a' := ?_) #[true, true, false, false, false, false, false, false, false] rfl rfl (by kernel_rfl) (fun _ _ _ h => h) (Or.inl ⟨by rfl, ?_⟩) ?_ ?_
              rotate_left
              · intro w'
                go_simp
                with_reducible rfl
              rotate_left
              · simp only [Act.put, List.setIfInBounds_toArray, List.set_cons_zero, List.set_cons_succ, i64_w, i32_w]
                rfl
              refine take_ (i := 2) (N := some 62) (v := ?_) (a' := ?_) #[true, true, true, false, false, false, false, false, false] rfl rfl (by kernel_rfl) (fun _ _ _ h => h) (Or.inl ⟨by rfl, ?_⟩) hHeld ?_ ?_
              rotate_left
              · rintro w' ⟨s0_, s1_⟩
                go_simp
                with_reducible rfl
              rotate_left
              · simp only [Act.put, List.setIfInBounds_toArray, List.set_cons_zero, List.set_cons_succ, i64_w, i32_w]
                rfl
              refine pure_ (i := 3) (N := some 63) (v := ?_) (a' := ?_) #[true, true, true, true, false, false, false, false, false] rfl rfl (by kernel_rfl) (fun _ _ _ h => h) (Or.inl ⟨by rfl, ?_⟩) ?_ ?_
              rotate_left
              · intro w'
                go_simp
                with_reducible rfl
              rotate_left
              · simp only [Act.put, List.setIfInBounds_toArray, List.set_cons_zero, List.set_cons_succ, i64_w, i32_w]
                rfl
              refine pure_ (i := 4) (N := some 64) (v := ?_) (a' := ?_) #[true, true, true, true, true, false, false, false, false] rfl rfl (by kernel_rfl) (fun _ _ _ h => h) (Or.inl ⟨by rfl, ?_⟩) ?_ ?_
              rotate_left
              · intro w'
                go_simp
                with_reducible rfl
              rotate_left
              · simp only [Act.put, List.setIfInBounds_toArray, List.set_cons_zero, List.set_cons_succ, i64_w, i32_w]
                rfl
              refine one_ (i := 5) (N := some 65) #[true, true, true, true, true, true, false, false, false] rfl rfl (by kernel_rfl) (by decide) (fun K hK => ?_)
              refine goes_ Try.func167 (by kernel_rfl) rfl #[.int .i64 op.f0, .int .i64 x, .int .i64 y] (by rfl) rfl rfl (by (try simp only [List.map_toArray, List.map_cons, List.map_nil]); first | done | rfl) ?_
              refine (querylang_binary.calls op.f0 x y m _ HG.out).mono ?_
              rintro e w4 ⟨rfl, hdr⟩
              refine ⟨_, rfl, ?_⟩
              have hc4 : Chg (fun _ => False) w7 w4 := (Chg.drew _).trans (Chg.of_new hdr) (fun _ _ h => h)
              have hb4 := hc4.at HB7.out (fun h => h)
              have ho4 := hc4.at HO7.out (fun h => h)
              have hv4 : Kd.R (Kd.int .i64) 3 w4 (w.heap.size + 1) (fun k => ¬ S1 k) (.slice V1 st5.length c1) st5 := Kd.R_step HV7.out (fun k _ hlt => hc4.block k hlt (fun h => h))
              have hhe : ∀ W' : World, W'.heap[w.heap.size]? = w4.heap[w.heap.size]? → W'.heap[wr.heap.size]? = w4.heap[wr.heap.size]? → (W'.cell? ⟨w.heap.size, 0, none⟩ = some (.slice V1 st5.length c1) ∧ W'.cell? ⟨wr.heap.size, 0, none⟩ = some (.int .i64 op.f0)) :=
                fun W' h1 h2 => ⟨cell_of_blk (h1.trans hb4), (cells_of_blk (h2.trans ho4) 0).trans rfl⟩
              have HHE := Aside0.mk hhe
              have HI4 := Aside0.mk (HO.out.keep HI7.out (hc4.mono (fun _ _ h => h.elim)))
              have HC4 := Aside0.mk (HC7.out.trans (hc4.mono (T := S) (fun _ _ h => h.elim)) (fun _ _ h => h))
              have HV4 := Aside0.mk hv4
              have HB4 := Aside0.mk hb4
              have HO4 := Aside0.mk ho4
              clear hc4 hv4 hb4 ho4 hhe hdr
              refine hK.out _ _ (HHE.out _ rfl rfl) (fun hHeld => ?_)
              clear hK K
              refine norm_ (a' := ?_) ?_ ?_
              rotate_left
              · show Act.put _ (some 65) _ = _
                simp only [Act.put, List.setIfInBounds_toArray, List.set_cons_zero, List.set_cons_succ, i64_w, i32_w]
                rfl
              refine one_ (i := 6) (N := some 66) #[true, true, true, true, true, true, true, false, false] rfl rfl (by kernel_rfl) (by decide) (fun K hK => ?_)
              refine value_ (v := .slice (some ⟨w4.heap.size, 0, none⟩) 1 1) (w1 := w4.alloc (.cells #[.int .i64 m] 3)) (by rfl) rfl ?_ ?_
              · go_simp
              refine hK.out _ _ (HHE.out _ (Below.heap_alloc _ _ _ (lt_of_blk HB4.out)) (Below.heap_alloc _ _ _ (lt_of_blk HO4.out))) (fun hHeld => ?_)
              clear hK K
              refine norm_ (a' := ?_) ?_ ?_
              rotate_left
              · show Act.put _ (some 66) _ = _
                simp only [Act.put, List.setIfInBounds_toArray, List.set_cons_zero, List.set_cons_succ, i64_w, i32_w]
                rfl
              refine one_ (i := 7) (N := some 67) #[true, true, true, true, true, true, true, true, false] rfl rfl (by kernel_rfl) (by decide) (fun K hK => ?_)
              refine Kd.R_append_step (Kd.int .i64) (w0 := w4) (w.heap.size + 1) (by rfl) (.tmp 60) (.tmp 66) 29 3 (.int .i64 0) 8 rfl Try.underlying29 info_3 rfl (by decide) (by omega) (.slice V1 st5.length c1) st5 m [.int .i64 m] (fun k => ¬ S1 k) (fun _ => False) rfl rfl rfl (fun _ h => h.elim) (fun k hk h => absurd (HO.out.lt HI4.out h) (Nat.not_lt.2 hk)) HV4.out (Below.refl _ _) (lt_of_blk HB4.out) (by have := HLIM.out; omega) ?_
              intro v5 w5 ho5 hb5 hg5 hat5
              obtain ⟨V5, c5, hv5⟩ := Kd.R_slice ho5
              rw [List.length_append, List.length_singleton] at hv5
              subst hv5
              have e6 := hb5.block _ (Nat.lt_succ_self w.heap.size)
              have hb6 := e6.trans HB4.out
              have hk6 := hg5.block _ (lt_of_blk HO4.out) (Kd.R_ne HV4.out HO4.out (by decide))
              have HO5 := Aside0.mk ho5
              have HG5 := Aside0.mk hg5
              have HBL := Aside0.mk hb6
              clear ho5 hg5 hb5 hat5 hb6
              refine hK.out _ _ (HHE.out _ e6 hk6) (fun hHeld => ?_)
              clear hK K
              refine norm_ (a' := ?_) ?_ ?_
              rotate_left
              · show Act.put _ (some 67) _ = _
                simp only [Act.put, List.setIfInBounds_toArray, List.set_cons_zero, List.set_cons_succ, i64_w, i32_w]
                rfl
              clear e6 hk6
              refine last_ (i := 8) (N := none) #[true, true, true, true, true, true, true, true, true] rfl rfl (by kernel_rfl) (by decide) (fun K hK => ?_)
              have s5 := cell_of_blk HBL.out
              have sf5 := free_of_blk HBL.out 0
              refine skip_ (w1 := w5.setCell ⟨w.heap.size, 0, none⟩ (.slice V5 (st5.length + 1) c5)) (by rfl) rfl ?_ ?_
              · go_simp
              refine hK.out _ _ (done_ (by kernel_rfl) ?_)
              clear hK K s5 sf5 hHeld
              have hw : wrap64 ((i : Int) + 1) = ((i + 1 : Nat) : Int) := by unfold wrap64; omega
              have HF := Aside0.mk (push_runI HO.out HR.out HB4.out HV4.out HI4.out HC4.out HS.out HS0.out HBB.out HO5.out HG5.out)
              go_wp2
              go_roundg k1
              case measure => omega
              case rel => exact ⟨i + 1, by first | rfl | rw [hw], by omega, HF⟩
            · cases hpush



/-! ### the evaluator -/
theorem popP_eq (st : List Int) : popP st = popP st := rfl
theorem stepP_mono {σ : Type} {G G' : σ → Int → Int → Int → Option (Int × σ)} (hG : ∀ s a b c r, G s a b c = some r → G' s a b c = some r) {kf : Nat} {index : Int} {op : S160} {st : List Int} {s : σ} {r : List Int × σ} (h : stepP G kf index op st s = some r) : stepP G' kf index op st s = some r := by
  unfold stepP at h ⊢
  obtain ⟨p, hp, h⟩ := Option.bind_eq_some_iff.1 h
  obtain ⟨q, hq, h⟩ := Option.bind_eq_some_iff.1 h
  rw [hp, Option.bind_some, hq, Option.bind_some]
  by_cases c : q.2.2.2 = true
  · rw [if_pos c] at h ⊢
    obtain ⟨t, ht, h⟩ := Option.bind_eq_some_iff.1 h
    rw [hG _ _ _ _ _ ht]
    exact h
  · rw [if_neg c] at h ⊢
    exact h
theorem runL_mono {σ : Type} {G G' : σ → Int → Int → Int → Option (Int × σ)} (hG : ∀ s a b c r, G s a b c = some r → G' s a b c = some r) {kf : Nat} {index : Int} : ∀ {ops : List S160} {st : List Int} {s : σ} {r : Int × σ}, runL G kf index ops st s = some r → runL G' kf index ops st s = some r
  | [], st, s, r, h => h
  | op :: t, st, s, r, h => by
    unfold runL at h ⊢
    obtain ⟨p, hp, h⟩ := Option.bind_eq_some_iff.1 h
    rw [stepP_mono hG hp]
    exact runL_mono hG h
def rdq (xs : List (List S160)) (i : Int) : (List S160) := xs.getD i.toNat ([] : List S160)
theorem at_q {w : World} {A : Option Addr} {n : Nat} {xs : List (List S160)} (h : Kd.C (Kd.slice 160 k160) w A n xs) (i : Int) (h0 : 0 ≤ i) (h1 : i < n) : ∃ ad A0 c0, A = some ad ∧ w.cell? (ad.add i.toNat) = some (.slice A0 (rdq xs i).length c0) ∧ (rdq xs i).length ≤ c0 ∧ k160.C w A0 (rdq xs i).length (rdq xs i) := by
  obtain ⟨ad, c, e, _, hK, hc0⟩ := Kd.C_get h ([] : List S160) i h0 h1
  have hc : ∀ j u, c[j]? = some u → w.cell? (ad.add (i.toNat * 1 + j)) = some u := hc0
  obtain ⟨A0, c0, rfl, l0, g0⟩ := hK
  exact ⟨ad, A0, c0, e, by have hq := hc 0 _ rfl; rwa [Nat.mul_one, Nat.add_zero] at hq, l0, g0⟩
/-- What ev.get answers, d calls deep. -/
def getP (kf : Nat) (ins : List Int) (qs : List (List S160)) : Nat → Int → Int → Option Int
  | 0, _, _ => none
  | d + 1, k1, k2 => if k1 = 0 then (if 0 ≤ k2 then (if k2 < (ins.length : Int) then querylang_reduce.f (rd ins k2) else none) else none)
    else (if 0 ≤ k2 then (if k2 < (qs.length : Int) then (runL (fun (_ : Unit) a b _ => (getP kf ins qs d a b).map (fun n => (n, ()))) kf k2 (rdq qs k2) [] ()).map Prod.fst else none) else none)
theorem getP_mono (kf : Nat) (ins : List Int) (qs : List (List S160)) : ∀ {d : Nat} {k1 k2 n : Int}, getP kf ins qs d k1 k2 = some n → getP kf ins qs (d + 1) k1 k2 = some n
  | 0, k1, k2, n, h => by cases h
  | d + 1, k1, k2, n, h => by
    rw [getP] at h ⊢
    by_cases c : k1 = 0
    · rw [if_pos c] at h ⊢; exact h
    · rw [if_neg c] at h ⊢
      by_cases c1 : 0 ≤ k2
      · rw [if_pos c1] at h ⊢
        by_cases c2 : k2 < (qs.length : Int)
        · rw [if_pos c2] at h ⊢
          obtain ⟨r, hr, rfl⟩ := Option.map_eq_some_iff.1 h
          rw [runL_mono (fun s a b c r hg => ?_) hr]
          · rfl
          · obtain ⟨x, hx, rfl⟩ := Option.map_eq_some_iff.1 hg
            rw [getP_mono kf ins qs hx]
            rfl
        · rw [if_neg c2] at h; cases h
      · rw [if_neg c1] at h; cases h
theorem getP_same {kf : Nat} {ins : List Int} {qs : List (List S160)} {d d' : Nat} {k1 k2 n n' : Int} (h : getP kf ins qs d k1 k2 = some n) (h' : getP kf ins qs d' k1 k2 = some n') : n = n' := by
  have up : ∀ (j : Nat) {d : Nat} {n : Int}, getP kf ins qs d k1 k2 = some n → getP kf ins qs (d + j) k1 k2 = some n := by
    intro j
    induction j with
    | zero => exact fun h => h
    | succ j ih => exact fun h => getP_mono kf ins qs (ih h)
  have h1 := up d' h
  have h2 := up d h'
  rw [Nat.add_comm] at h2
  rw [h1] at h2
  exact Option.some.inj h2
/-- The evaluator as it stands: its cell, and a cache that tells the truth. -/
def EvI (kf : Nat) (a0 : Int) (AQ : Option Addr) (cq : Nat) (qs : List (List S160)) (AI : Option Addr) (ci : Nat) (ins : List Int) (w0 : World) (mb eb : Nat) (_ : Unit) (S : Nat → Prop) (W : World) : Prop :=
  (∀ k, S k ↔ k = mb) ∧ W.heap[eb]? = some (.cells #[.int .i64 a0, .slice AQ qs.length cq, .slice AI ins.length ci, .map (some mb)] 304 (0, 0)) ∧
  (∃ m : List (Int × Int), MapIs (Value.int .i64) W mb (m.map (fun p => (p.1, Value.int .i64 p.2))) ∧ ∀ q n, mget m q = some n → ∃ d, getP kf ins qs d 1 q = some n) ∧ Below w0.heap.size w0 W ∧ w0.heap.size ≤ mb ∧ mb < eb

theorem ev_keep {kf a0 AQ cq qs AI ci ins w0 mb eb s S W W'} (h : EvI kf a0 AQ cq qs AI ci ins w0 mb eb s S W) (hc : Chg (fun k => ¬ S k ∧ eb + 1 ≤ k) W W') : EvI kf a0 AQ cq qs AI ci ins w0 mb eb s S W' := by
  obtain ⟨h1, h2, ⟨m, h3, h4⟩, h5, h6, h7⟩ := h
  refine ⟨h1, hc.at h2 (fun e => by omega), ⟨m, h3.move (hc.block _ h3.lt (fun e => by omega)), h4⟩, ?_, h6, h7⟩
  exact h5.trans (hc.to_below (fun k _ e => by omega) h5.size)
theorem zero_3 (w : World) : (zeroValue 3).run Try.prog w = .ok (.int .i64 0) w := by kernel_rfl
theorem info_302 : Try.prog.underlying 302 = some (.map 3 3) := by kernel_rfl
set_option maxRecDepth 100000 in
set_option maxHeartbeats 4000000 in
theorem get_calls (kf : Nat) (a0 : Int) (AQ : Option Addr) (cq : Nat) (qs : List (List S160)) (AI : Option Addr) (ci : Nat) (ins : List Int) (w0 : World) (mb eb : Nat) (hq : Kd.C (Kd.slice 160 k160) w0 AQ qs.length qs) (hcq : qs.length ≤ cq) (hi : Kd.C (Kd.int .i64) w0 AI ins.length ins) (hci : ins.length ≤ ci) :
    ∀ (d : Nat) {k1 k2 k3 n : Int} {S : Nat → Prop} {W : World}, getP kf ins qs d k1 k2 = some n → EvI kf a0 AQ cq qs AI ci ins w0 mb eb () S W →
      Calls Try.prog 161 #[.pointer (some ⟨eb, 0, none⟩), .agg #[.int .i64 k1, .int .i64 k2, .int .i64 k3]] W fun e w' => e = .returned (.int .i64 n) ∧ ∃ S', EvI kf a0 AQ cq qs AI ci ins w0 mb eb () S' w' ∧ Chg S W w' ∧ ∀ k, S' k → S k ∨ W.heap.size ≤ k
  | 0, k1, k2, k3, n, S, W, h, _ => by cases h
  | d + 1, k1, k2, k3, n, S, W, h, hI => by
    have ih : Oracle (eb + 1) 161 #[.pointer (some ⟨eb, 0, none⟩)] #[] (fun (_ : Unit) a b _ => (getP kf ins qs d a b).map (fun n => (n, ()))) (EvI kf a0 AQ cq qs AI ci ins w0 mb eb) := {
      lt := fun {s S W k} h hk => by have := (h.1 k).1 hk; subst this; obtain ⟨m, h3, _⟩ := h.2.2.1; exact h3.lt
      keep := fun h hc => ev_keep h hc
      enters := fun args w => enters_ Try.func161 (by kernel_rfl) rfl args w
      goes := fun {s S W k1 k2 k3 n s'} h hg => by
        obtain ⟨x, hx, he⟩ := Option.map_eq_some_iff.1 hg
        injection he with he _
        subst he
        exact get_calls kf a0 AQ cq qs AI ci ins w0 mb eb hq hcq hi hci d hx h }
    rw [getP] at h
    have HEV := Aside0.mk hI
    obtain ⟨hS, hE, ⟨m, hm, hgood⟩, hbel, h6, h7⟩ := hI
    have HIH := Aside0.mk ih
    have HE := Aside0.mk hE
    have HM := Aside0.mk hm
    have HGD := Aside0.mk hgood
    have HBL := Aside0.mk hbel
    have HS := Aside0.mk hS
    have HQ := Aside0.mk hq
    have HIN := Aside0.mk hi
    have HH := Aside0.mk h
    have HCQ := Aside0.mk hcq
    have HCI := Aside0.mk hci
    clear ih hE hm hgood hbel hS hq hi h hcq hci
    by_cases c1 : k1 = 0
    · have h := HH.out
      rw [if_pos c1] at h
      by_cases c2 : 0 ≤ k2
      · rw [if_pos c2] at h
        by_cases c3 : k2 < (ins.length : Int)
        · rw [if_pos c3] at h
          have HR := Aside0.mk h
          have b1 : (k1 == 0) = true := by simp [c1]
          have p2 := eq_true c2
          have p3 := eq_true c3
          obtain ⟨ad, hA, hx⟩ := Kd.at_int (Kd.C_below HIN.out HBL.out) k2 c2 c3
          clear h c1 c2 c3 HH
          subst hA
          go_enter Try.func161, Try.ntmps161
          go_upto_region 2 with (fail)
          have hbl : Below W.heap.size W (W.alloc (.cells #[.int .i64 k1, .int .i64 k2, .int .i64 k3] 26)) := below_alloc (Below.refl _ _) _
          obtain ⟨W1, hW1⟩ : ∃ W1, W1 = W.alloc (.cells #[.int .i64 k1, .int .i64 k2, .int .i64 k3] 26) := ⟨_, rfl⟩
          have hk : W1.heap[W.heap.size]? = some (.cells #[.int .i64 k1, .int .i64 k2, .int .i64 k3] 26 (0, 0)) := by rw [hW1]; exact hb_new _ _
          rw [← hW1] at hbl ⊢
          clear hW1 b1
          have e1 : W1.cell? ⟨eb, 2, none⟩ = some (.slice (some ad) ins.length ci) := (cells_of_blk ((hbl.block _ (lt_of_blk HE.out)).trans HE.out) 2).trans rfl
          have e2 : W1.cell? ⟨W.heap.size, 1, none⟩ = some (.int .i64 k2) := (cells_of_blk hk 1).trans rfl
          have e3 := (hbl.cell (World.block_lt_of_cell? _ _ hx)).trans hx
          have HBL1 := Aside0.mk hbl
          clear hbl hk hx
          go_region_held3 (fun w' => w'.cell? ⟨eb, 2, none⟩ = some (.slice (some ad) ins.length ci) ∧ w'.cell? ⟨W.heap.size, 1, none⟩ = some (.int .i64 k2) ∧ w'.cell? (ad.add k2.toNat) = some (.int .i64 (rd ins k2)))
            (first | exact ⟨e1, e2, e3⟩ | exact ⟨t1, t2, t3⟩)
            ((go_at_call 92
              refine (querylang_reduce.calls _ n _ HR.out).mono ?_
              rintro e w4 ⟨rfl, hdr⟩
              have hb4 : Below W1.heap.size W1 w4 := by
                obtain ⟨nd, rfl⟩ := hdr.out
                exact pw_below_drewN (below_drew1 (Below.refl _ _)) nd
              have t1 := (hb4.cell (World.block_lt_of_cell? _ _ e1)).trans e1
              have t2 := (hb4.cell (World.block_lt_of_cell? _ _ e2)).trans e2
              have t3 := (hb4.cell (World.block_lt_of_cell? _ _ e3)).trans e3
              have HB4 := Aside0.mk hb4
              clear hb4 hdr))
          go_wp2
          go_ret
          have hb : Below W.heap.size W w4 := HBL1.out.trans (HB4.out.mono HBL1.out.size)
          exact ⟨rfl, S, ev_keep HEV.out (Chg.of_new hb), Chg.of_new hb, fun k hk => .inl hk⟩
        · rw [if_neg c3] at h; cases h
      · rw [if_neg c2] at h; cases h
    · have b1 : (k1 == 0) = false := by simp [c1]
      have h := HH.out
      rw [if_neg c1] at h
      by_cases c2 : 0 ≤ k2
      · rw [if_pos c2] at h
        by_cases c3 : k2 < (qs.length : Int)
        · rw [if_pos c3] at h
          obtain ⟨⟨n', _⟩, hr, hnn⟩ := Option.map_eq_some_iff.1 h
          have hnn2 : n' = n := hnn
          subst hnn2
          have HR := Aside0.mk hr
          have HC1 := Aside0.mk c1
          have p2 := eq_true c2
          have p3 := eq_true c3
          obtain ⟨ad, AO, co, hA, hx0, hlo, hro⟩ := at_q HQ.out k2 c2 c3
          have hx := (HBL.out.cell (World.block_lt_of_cell? _ _ hx0)).trans hx0
          have HXB := Aside0.mk (show (ad.add k2.toNat).block < w0.heap.size from World.block_lt_of_cell? _ _ hx0)
          have HRO := Aside0.mk hro
          have HLO := Aside0.mk hlo
          clear h c1 c2 c3 hr hro hlo hnn hx0
          subst hA
          go_enter Try.func161, Try.ntmps161
          go_upto_region 3 with (fail)
          have hbl : Below W.heap.size W (W.alloc (.cells #[.int .i64 k1, .int .i64 k2, .int .i64 k3] 26)) := below_alloc (Below.refl _ _) _
          obtain ⟨W1, hW1⟩ : ∃ W1, W1 = W.alloc (.cells #[.int .i64 k1, .int .i64 k2, .int .i64 k3] 26) := ⟨_, rfl⟩
          have hk : W1.heap[W.heap.size]? = some (.cells #[.int .i64 k1, .int .i64 k2, .int .i64 k3] 26 (0, 0)) := by rw [hW1]; exact hb_new _ _
          rw [← hW1] at hbl ⊢
          clear hW1 b1
          have he : W1.heap[eb]? = some (.cells #[.int .i64 a0, .slice (some ad) qs.length cq, .slice AI ins.length ci, .map (some mb)] 304 (0, 0)) := (hbl.block _ (lt_of_blk HE.out)).trans HE.out
          have hm1 : MapIs (Value.int .i64) W1 mb (m.map (fun p => (p.1, Value.int .i64 p.2))) := HM.out.move (hbl.block _ HM.out.lt)
          have e3 := (hbl.cell (World.block_lt_of_cell? _ _ hx)).trans hx
          have HBL1 := Aside0.mk hbl
          have HK1 := Aside0.mk hk
          have HE1 := Aside0.mk he
          have HM1 := Aside0.mk hm1
          clear hbl hk hx he hm1
          have hl : ∀ w' : World, MapIs (Value.int .i64) w' mb (m.map (fun p => (p.1, Value.int .i64 p.2))) → (Instr.lookup 302 (.map (some mb)) (.int .i64 k2) true).run Try.prog w' = .ok (.tuple #[.int .i64 ((mget m k2).getD 0), .bool (mget m k2).isSome]) w' := by
            intro w' h
            have := h.lookup (keyLaw_int (P := Try.prog) (kt := 3) (q := .i64) Try.underlying3) info_302 (zero_3 w') k2 true
            rw [this, mget_map]
            cases mget m k2 <;> rfl
          have HL := Aside0.mk hl
          clear hl
          have f1 : W1.cell? ⟨eb, 3, none⟩ = some (.map (some mb)) := (cells_of_blk HE1.out 3).trans rfl
          have f2 : W1.cell? ⟨W.heap.size, 1, none⟩ = some (.int .i64 k2) := (cells_of_blk HK1.out 1).trans rfl
          have f3 := HL.out W1 HM1.out
          have f4 := HL.out W1.drew (HM1.out.move rfl)
          go_region_held3 (fun w' => w'.cell? ⟨eb, 3, none⟩ = some (.map (some mb)) ∧ w'.cell? ⟨W.heap.size, 1, none⟩ = some (.int .i64 k2) ∧ (Instr.lookup 302 (.map (some mb)) (.int .i64 k2) true).run Try.prog w' = .ok (.tuple #[.int .i64 ((mget m k2).getD 0), .bool (mget m k2).isSome]) w')
            (first | exact ⟨f1, f2, f4⟩ | exact ⟨f1, f2, f3⟩)
            (fail)
          clear f3 f4
          cases hg : mget m k2 with
          | some v =>
            have hv : v = n' := by
              obtain ⟨d', hd'⟩ := HGD.out _ _ hg
              have h2 := HH.out
              rw [if_neg HC1.out] at h2
              have h3 : getP kf ins qs (d + 1) 1 k2 = some n' := by rw [getP, if_neg (by decide)]; exact h2
              exact getP_same hd' h3
            subst hv
            clear hg
            go_wp2
            go_ret
            have hb : Below W.heap.size W W1.drew := below_drew HBL1.out
            exact ⟨rfl, S, ev_keep HEV.out (Chg.of_new hb), Chg.of_new hb, fun k hk => .inl hk⟩
          | none =>
            have HG := Aside0.mk hg
            clear hg f1
            have f1 : W1.cell? ⟨eb, 1, none⟩ = some (.slice (some ad) qs.length cq) := (cells_of_blk HE1.out 1).trans rfl
            go_upto_region 5 with (fail)
            go_region_held3 (fun w' => w'.cell? ⟨eb, 1, none⟩ = some (.slice (some ad) qs.length cq) ∧ w'.cell? ⟨W.heap.size, 1, none⟩ = some (.int .i64 k2) ∧ w'.cell? (ad.add k2.toNat) = some (.slice AO (rdq qs k2).length co))
              (first | exact ⟨f1, f2, e3⟩ | exact ⟨t1, t2, t3⟩)
              ((go_at_call 90
                refine (run_calls HIH.out kf AO co (rdq qs k2) k2 () () n' S _ (fun W' hc => Kd.C_below HRO.out ((HBL.out.trans ((below_drew (below_drew HBL1.out) : Below W.heap.size W W1.drew.drew).mono HBL.out.size)).trans (hc.to_below (fun k _ e => by have := (HS.out k).1 e; omega) (by have := HBL.out.size; have := HBL1.out.size; show w0.heap.size ≤ W1.heap.size; omega)))) HLO.out (ev_keep HEV.out (Chg.of_new (below_drew (below_drew HBL1.out)))) (fun k hk => by have := (HS.out k).1 hk; have := HM1.out.lt; show k < W1.heap.size; omega) (lt_of_blk HE1.out) HR.out).mono ?_
                rintro e w5 ⟨rfl, S5, hI5, hc5, hS5⟩
                have he5 := hc5.at (show W1.drew.drew.heap[eb]? = _ from HE1.out) (fun e => by have := (HS.out _).1 e; omega)
                have hk5 := hc5.at (show W1.drew.drew.heap[W.heap.size]? = _ from HK1.out) (fun e => by have := (HS.out _).1 e; have := lt_of_blk HE.out; omega)
                have hx5 : w5.cell? (ad.add k2.toNat) = some (.slice AO (rdq qs k2).length co) := by
                  have hlt := World.block_lt_of_cell? _ _ e3
                  have h := hc5.block (ad.add k2.toNat).block hlt (fun e => by have := (HS.out _).1 e; have := HXB.out; omega)
                  have e : w5.cell? (ad.add k2.toNat) = W1.cell? (ad.add k2.toNat) := by unfold World.cell?; rw [h]; rfl
                  exact e.trans e3
                have t1 : w5.cell? ⟨eb, 1, none⟩ = some (.slice (some ad) qs.length cq) := (cells_of_blk he5 1).trans rfl
                have t2 : w5.cell? ⟨W.heap.size, 1, none⟩ = some (.int .i64 k2) := (cells_of_blk hk5 1).trans rfl
                have t3 := hx5
                have HI5 := Aside0.mk hI5
                have HC5 := Aside0.mk hc5
                have HS5 := Aside0.mk hS5
                have HE5 := Aside0.mk he5
                have HK5 := Aside0.mk hk5
                clear hI5 hc5 hS5 he5 hk5 hx5))
            clear f1 f2 e3 t1 t3
            obtain ⟨hSS5, _, ⟨m5, hm5, hgood5⟩, hbel5, _, _⟩ := HI5.out
            obtain ⟨W6, hupd, hm6, hgr⟩ := (hm5.move (W1 := w5.drew) rfl).update (keyLaw_int (P := Try.prog) (kt := 3) (q := .i64) Try.underlying3) info_302 k2 (.int .i64 n')
            have u1 : w5.cell? ⟨eb, 3, none⟩ = some (.map (some mb)) := (cells_of_blk HE5.out 3).trans rfl
            have hc6 : Chg (fun k => k = mb) w5.drew W6 := Chg.of_grown hgr (fun k e => (Option.some.inj e).symm)
            have he6 := hc6.at (show w5.drew.heap[eb]? = _ from HE5.out) (by omega)
            have hk6 := hc6.at (show w5.drew.heap[W.heap.size]? = _ from HK5.out) (by have := lt_of_blk HE.out; omega)
            have u3 : W6.cell? ⟨eb, 3, none⟩ = some (.map (some mb)) := (cells_of_blk he6 3).trans rfl
            have u4 : W6.cell? ⟨W.heap.size, 1, none⟩ = some (.int .i64 k2) := (cells_of_blk hk6 1).trans rfl
            have HM6 := Aside0.mk hm6
            have HC6 := Aside0.mk hc6
            have HE6 := Aside0.mk he6
            have HG5 := Aside0.mk hgood5
            have HBL5 := Aside0.mk hbel5
            have HSS5 := Aside0.mk hSS5
            clear hm6 hc6 he6 hk6 hgood5 hbel5 hSS5 hgr hm5
            go_upto_region 6 with (fail)
            go_region_held3 (fun w' => w'.cell? ⟨eb, 3, none⟩ = some (.map (some mb)) ∧ w'.cell? ⟨W.heap.size, 1, none⟩ = some (.int .i64 k2))
              (first | exact ⟨u1, t2⟩ | exact ⟨u3, u4⟩)
              (fail)
            clear u1 u3 u4 t2 hupd
            go_wp2
            go_ret
            have hn1 : getP kf ins qs (d + 1) 1 k2 = some n' := by
              have h2 := HH.out
              rw [if_neg HC1.out] at h2
              rw [getP, if_neg (by decide)]
              exact h2
            have hb2 : Below W.heap.size W W1.drew.drew := below_drew (below_drew HBL1.out)
            have hcc : Chg S W W6 := ((Chg.of_new hb2 : Chg S W _).trans HC5.out (fun _ _ h => h)).trans ((Chg.drew w5).trans HC6.out (fun _ _ h => h) : Chg (fun k => k = mb) w5 W6) (fun k _ e => (HS.out k).2 e)
            refine ⟨rfl, fun k => k = mb, ⟨fun k => Iff.rfl, HE6.out, ⟨mset m5 k2 n', ?_, ?_⟩, ?_, h6, h7⟩, hcc, fun k e => .inl ((HS.out k).2 e)⟩
            · rw [mset_map]; exact HM6.out
            · intro q v hqv
              by_cases c : k2 = q
              · subst c
                rw [mget_mset_same] at hqv
                injection hqv with hqv
                subst hqv
                exact ⟨_, hn1⟩
              · rw [mget_mset_ne _ _ c] at hqv
                exact HG5.out _ _ hqv
            · exact HBL.out.trans (hcc.to_below (fun k _ e => by have := (HS.out k).1 e; omega) HBL.out.size)
        · rw [if_neg c3] at h; cases h
      · rw [if_neg c2] at h; cases h

/-- What newEvaluator answers: its error. -/
def newEvP (k : Nat) (a0 : Int) (qs : List (List S160)) (ins : List Int) (q : Int) : Option Int :=
  (querylang_Check.f k a0 qs).bind fun c => some (if c = 0 then (if (ins.length : Int) = a0 ∧ 0 ≤ q ∧ q < (qs.length : Int) then 0 else 1) else c)
def NewPost (kf : Nat) (a0 : Int) (AQ : Option Addr) (cq : Nat) (qs : List (List S160)) (AI : Option Addr) (ci : Nat) (ins : List Int) (c : Int) (w : World) (e : Ending) (w' : World) : Prop :=
  Below w.heap.size w w' ∧ ((c ≠ 0 ∧ e = .returned (.tuple #[.pointer none, .int .i64 c])) ∨ (c = 0 ∧ ∃ mb eb, e = .returned (.tuple #[.pointer (some ⟨eb, 0, none⟩), .int .i64 0]) ∧ EvI kf a0 AQ cq qs AI ci ins w mb eb () (fun k => k = mb) w'))
set_option maxRecDepth 100000 in
set_option maxHeartbeats 4000000 in
theorem newEv_calls (kf k : Nat) (a0 : Int) (AQ : Option Addr) (cq : Nat) (qs : List (List S160)) (AI : Option Addr) (ci : Nat) (ins : List Int) (q c : Int) (w : World) (hq : Kd.C (Kd.slice 160 k160) w AQ qs.length qs) (hcq : qs.length ≤ cq) (hi : Kd.C (Kd.int .i64) w AI ins.length ins) (hci : ins.length ≤ ci) (h : newEvP k a0 qs ins q = some c) :
    Calls Try.prog 160 #[.agg #[.int .i64 a0, .slice AQ qs.length cq], .slice AI ins.length ci, .int .i64 q] w (NewPost kf a0 AQ cq qs AI ci ins c w) := by
  unfold newEvP at h
  obtain ⟨c1, hc1, h⟩ := Option.bind_eq_some_iff.1 h
  injection h with h
  have hmm := @run_makeMap Try.prog
  have HQ := Aside0.mk hq
  have HCQ := Aside0.mk hcq
  have HI := Aside0.mk hi
  have HC1 := Aside0.mk hc1
  have HH := Aside0.mk h
  have hlen := hi.2.1
  have hlen2 := hq.2.1
  clear hq hcq hi hci hc1 h
  have hbx : Below w.heap.size w (w.alloc (.cells #[.int .i64 a0, .slice AQ qs.length cq] 24)) := below_alloc (Below.refl _ _) _
  by_cases e0 : c1 = 0
  · have h := HH.out
    rw [if_pos e0] at h
    subst e0
    have b0 : ((0 : Int) != 0) = false := by decide
    by_cases d1 : (ins.length : Int) = a0
    · have b1 : ((ins.length : Int) != a0) = false := by simp [d1]
      by_cases d2 : 0 ≤ q
      · have b2 : decide (q < 0) = false := by simp; omega
        by_cases d3 : q < (qs.length : Int)
        · have b3 : decide (q ≥ (qs.length : Int)) = false := by simp; omega
          rw [if_pos ⟨d1, d2, d3⟩] at h
          subst h
          clear d1 d2 d3 HH
          go_enter Try.func160, Try.ntmps160
          go_wp2_with (go_at_call 87; refine (querylang_Check.calls k a0 AQ cq qs 0 _ (Kd.C_below HQ.out hbx) HCQ.out HC1.out).mono ?_; rintro e w2 ⟨rfl, hb2⟩; have hbw := hbx.trans (hb2.mono hbx.size); have hx0 : w2.cell? ⟨w.heap.size, 0, none⟩ = some (.int .i64 a0) := (cells_of_blk ((hb2.block _ (by simp)).trans (hb_new w _)) 0).trans rfl; have hx1 : w2.cell? ⟨w.heap.size, 1, none⟩ = some (.slice AQ qs.length cq) := (cells_of_blk ((hb2.block _ (by simp)).trans (hb_new w _)) 1).trans rfl; have HB2 := Aside0.mk hbw; clear hbw hb2)
          go_ret2
          have hb3 : Below w.heap.size w ((w2.alloc (.map #[] 0)).alloc (.cells #[.int .i64 a0, .slice AQ qs.length cq, .slice AI ins.length ci, .map (some w2.heap.size)] 304)) := below_alloc (below_alloc HB2.out _) _
          refine ⟨hb3, .inr ⟨rfl, w2.heap.size, w2.heap.size + 1, rfl, fun k => Iff.rfl, ?_, ⟨[], ?_, fun q n h => by cases h⟩, hb3, HB2.out.size, Nat.lt_succ_self _⟩⟩
          · have := hb_new (w2.alloc (.map #[] 0)) (.cells #[.int .i64 a0, .slice AQ qs.length cq, .slice AI ins.length ci, .map (some w2.heap.size)] 304)
            rw [World.size_alloc] at this
            exact this
          · exact (MapIs.new w2).move (Below.heap_alloc _ _ _ (by simp))
        · have b3 : decide (q ≥ (qs.length : Int)) = true := by simp; omega
          rw [if_neg (fun h => d3 h.2.2)] at h
          subst h
          clear d1 d2 d3 HH
          go_enter Try.func160, Try.ntmps160
          go_wp2_with (go_at_call 87; refine (querylang_Check.calls k a0 AQ cq qs 0 _ (Kd.C_below HQ.out hbx) HCQ.out HC1.out).mono ?_; rintro e w2 ⟨rfl, hb2⟩; have hbw := hbx.trans (hb2.mono hbx.size); have hx0 : w2.cell? ⟨w.heap.size, 0, none⟩ = some (.int .i64 a0) := (cells_of_blk ((hb2.block _ (by simp)).trans (hb_new w _)) 0).trans rfl; have hx1 : w2.cell? ⟨w.heap.size, 1, none⟩ = some (.slice AQ qs.length cq) := (cells_of_blk ((hb2.block _ (by simp)).trans (hb_new w _)) 1).trans rfl; have HB2 := Aside0.mk hbw; clear hbw hb2)
          go_ret2
          exact ⟨HB2.out, .inl ⟨by decide, rfl⟩⟩
      · have b2 : decide (q < 0) = true := by simp; omega
        rw [if_neg (fun h => d2 h.2.1)] at h
        subst h
        clear d1 d2 HH
        go_enter Try.func160, Try.ntmps160
        go_wp2_with (go_at_call 87; refine (querylang_Check.calls k a0 AQ cq qs 0 _ (Kd.C_below HQ.out hbx) HCQ.out HC1.out).mono ?_; rintro e w2 ⟨rfl, hb2⟩; have hbw := hbx.trans (hb2.mono hbx.size); have hx0 : w2.cell? ⟨w.heap.size, 0, none⟩ = some (.int .i64 a0) := (cells_of_blk ((hb2.block _ (by simp)).trans (hb_new w _)) 0).trans rfl; have hx1 : w2.cell? ⟨w.heap.size, 1, none⟩ = some (.slice AQ qs.length cq) := (cells_of_blk ((hb2.block _ (by simp)).trans (hb_new w _)) 1).trans rfl; have HB2 := Aside0.mk hbw; clear hbw hb2)
        go_ret2
        exact ⟨HB2.out, .inl ⟨by decide, rfl⟩⟩
    · have b1 : ((ins.length : Int) != a0) = true := by simp [d1]
      rw [if_neg (fun h => d1 h.1)] at h
      subst h
      clear d1 HH
      go_enter Try.func160, Try.ntmps160
      go_wp2_with (go_at_call 87; refine (querylang_Check.calls k a0 AQ cq qs 0 _ (Kd.C_below HQ.out hbx) HCQ.out HC1.out).mono ?_; rintro e w2 ⟨rfl, hb2⟩; have hbw := hbx.trans (hb2.mono hbx.size); have hx0 : w2.cell? ⟨w.heap.size, 0, none⟩ = some (.int .i64 a0) := (cells_of_blk ((hb2.block _ (by simp)).trans (hb_new w _)) 0).trans rfl; have hx1 : w2.cell? ⟨w.heap.size, 1, none⟩ = some (.slice AQ qs.length cq) := (cells_of_blk ((hb2.block _ (by simp)).trans (hb_new w _)) 1).trans rfl; have HB2 := Aside0.mk hbw; clear hbw hb2)
      go_ret2
      exact ⟨HB2.out, .inl ⟨by decide, rfl⟩⟩
  · have h := HH.out
    rw [if_neg e0] at h
    subst h
    have b0 : (c1 != 0) = true := by simp [e0]
    have HE0 := Aside0.mk e0
    clear e0 HH
    go_enter Try.func160, Try.ntmps160
    go_wp2_with (go_at_call 87; refine (querylang_Check.calls k a0 AQ cq qs c1 _ (Kd.C_below HQ.out hbx) HCQ.out HC1.out).mono ?_; rintro e w2 ⟨rfl, hb2⟩)
    go_ret2
    exact ⟨hbx.trans (hb2.mono hbx.size), .inl ⟨HE0.out, rfl⟩⟩

/-- What Eval answers. -/
def querylang_Eval.f (k : Nat) (a0 : Int) (qs : List (List S160)) (ins : List Int) (q : Int) : Option (Int × Int) :=
  (newEvP k a0 qs ins q).bind fun c => if c = 0 then (getP k ins qs k 1 q).map (fun n => (n, 0)) else some (0, c)
theorem stepP_mono2 {σ : Type} {G : σ → Int → Int → Int → Option (Int × σ)} {kf : Nat} {index : Int} {op : S160} {st : List Int} {s : σ} {r : List Int × σ} (h : stepP G kf index op st s = some r) : stepP G (kf + 1) index op st s = some r := by
  unfold stepP at h ⊢
  obtain ⟨p, hp, h⟩ := Option.bind_eq_some_iff.1 h
  obtain ⟨q, hq, h⟩ := Option.bind_eq_some_iff.1 h
  rw [hp, Option.bind_some, querylang_operandKey.mono _ _ _ _ _ _ _ hq, Option.bind_some]
  exact h
theorem runL_mono2 {σ : Type} {G : σ → Int → Int → Int → Option (Int × σ)} {kf : Nat} {index : Int} : ∀ {ops : List S160} {st : List Int} {s : σ} {r : Int × σ}, runL G kf index ops st s = some r → runL G (kf + 1) index ops st s = some r
  | [], st, s, r, h => h
  | op :: t, st, s, r, h => by
    unfold runL at h ⊢
    obtain ⟨p, hp, h⟩ := Option.bind_eq_some_iff.1 h
    rw [stepP_mono2 hp]
    exact runL_mono2 h
theorem getP_mono2 (kf : Nat) (ins : List Int) (qs : List (List S160)) : ∀ {d : Nat} {k1 k2 n : Int}, getP kf ins qs d k1 k2 = some n → getP (kf + 1) ins qs d k1 k2 = some n
  | 0, k1, k2, n, h => by cases h
  | d + 1, k1, k2, n, h => by
    rw [getP] at h ⊢
    by_cases c : k1 = 0
    · rw [if_pos c] at h ⊢; exact h
    · rw [if_neg c] at h ⊢
      by_cases c1 : 0 ≤ k2
      · rw [if_pos c1] at h ⊢
        by_cases c2 : k2 < (qs.length : Int)
        · rw [if_pos c2] at h ⊢
          obtain ⟨r, hr, rfl⟩ := Option.map_eq_some_iff.1 h
          rw [runL_mono2 (runL_mono (fun s a b c r hg => ?_) hr)]
          · rfl
          · obtain ⟨x, hx, rfl⟩ := Option.map_eq_some_iff.1 hg
            rw [getP_mono2 kf ins qs hx]
            rfl
        · rw [if_neg c2] at h; cases h
      · rw [if_neg c1] at h; cases h
theorem newEvP_mono (k : Nat) (a0 : Int) (qs : List (List S160)) (ins : List Int) (q : Int) : LeO (newEvP k a0 qs ins q) (newEvP (k + 1) a0 qs ins q) := by
  unfold newEvP
  exact LeO.bind (querylang_Check.mono _ _ _) (fun _ => LeO.refl _)
theorem querylang_Eval.mono : ∀ a0 a1 a2 a3 k, LeO (querylang_Eval.f k a0 a1 a2 a3) (querylang_Eval.f (k + 1) a0 a1 a2 a3) := by
  intro a0 a1 a2 a3 k
  unfold querylang_Eval.f
  refine LeO.bind (newEvP_mono _ _ _ _ _) (fun c => ?_)
  refine LeO.ite ?_ (LeO.refl _)
  intro r h
  obtain ⟨x, hx, rfl⟩ := Option.map_eq_some_iff.1 h
  rw [getP_mono _ _ _ (getP_mono2 _ _ _ hx)]
  rfl
set_option maxRecDepth 100000 in
set_option maxHeartbeats 4000000 in
theorem querylang_Eval.calls (k : Nat) (a0_0 : Int) (A0_1 : Option Addr) (c0_1 : Nat) (l0_1 : List (List (S160))) (A1 : Option Addr) (c1 : Nat) (l1 : List Int) (a2 : Int) (r1 : Int) (r2 : Int) (w : World) (hr0_1 : Kd.C (Kd.slice 160 k160) w A0_1 l0_1.length l0_1) (hc0_1 : l0_1.length ≤ c0_1) (hr1 : Kd.C (Kd.int .i64) w A1 l1.length l1) (hc1 : l1.length ≤ c1) (h : querylang_Eval.f k a0_0 l0_1 l1 a2 = some (r1, r2)) :
    Calls Try.prog 86 #[.agg #[.int .i64 a0_0, .slice A0_1 l0_1.length c0_1], .slice A1 l1.length c1, .int .i64 a2] w fun e w' => e = .returned (.tuple #[.int .i64 r1, .int .i64 r2]) ∧ Below w.heap.size w w' := by
  unfold querylang_Eval.f at h
  obtain ⟨c, hc, h⟩ := Option.bind_eq_some_iff.1 h
  have HQ := Aside0.mk hr0_1
  have HCQ := Aside0.mk hc0_1
  have HI := Aside0.mk hr1
  have HCI := Aside0.mk hc1
  have HC := Aside0.mk hc
  have hbx : Below w.heap.size w (w.alloc (.cells #[.int .i64 a0_0, .slice A0_1 l0_1.length c0_1] 24)) := below_alloc (Below.refl _ _) _
  have HBX := Aside0.mk hbx
  clear hr0_1 hc0_1 hr1 hc1 hc hbx
  by_cases e0 : c = 0
  · subst e0
    rw [if_pos rfl] at h
    obtain ⟨n, hn, he⟩ := Option.map_eq_some_iff.1 h
    injection he with h1 h2
    subst h1 h2
    have HN := Aside0.mk hn
    clear h hn
    go_enter Try.func86, Try.ntmps86
    go_upto_region 2 with (go_at_call 160; refine (newEv_calls k k a0_0 A0_1 c0_1 l0_1 A1 c1 l1 a2 0 _ (Kd.C_below HQ.out HBX.out) HCQ.out (Kd.C_below HI.out HBX.out) HCI.out HC.out).mono ?_; rintro e w2 ⟨hb2, ⟨hx, _⟩ | ⟨_, mb, eb, rfl, hev⟩⟩; (exact absurd rfl hx))
    have HB2 := Aside0.mk hb2
    have HEV := Aside0.mk hev
    clear hb2 hev
    go_wp2_with (go_at_call 161; refine (get_calls k a0_0 A0_1 c0_1 l0_1 A1 c1 l1 _ mb eb (Kd.C_below HQ.out HBX.out) HCQ.out (Kd.C_below HI.out HBX.out) HCI.out k HN.out HEV.out).mono ?_; rintro e w3 ⟨rfl, S3, hI3, hc3, hS3⟩)
    go_ret2
    refine ⟨rfl, HBX.out.trans (Below.trans (HB2.out.mono HBX.out.size) (hc3.to_below (fun j _ e => ?_) ?_))⟩
    · have := HEV.out.2.2.2.2.1
      have h2 := HBX.out.size
      subst e
      omega
    · exact Nat.le_trans HBX.out.size HB2.out.size
  · rw [if_neg e0] at h
    injection h with h
    injection h with h1 h2
    subst h1 h2
    have b0 : (c != 0) = true := by simp [e0]
    have HE0 := Aside0.mk e0
    clear e0
    go_enter Try.func86, Try.ntmps86
    go_wp2_with (go_at_call 160; refine (newEv_calls k k a0_0 A0_1 c0_1 l0_1 A1 c1 l1 a2 c _ (Kd.C_below HQ.out HBX.out) HCQ.out (Kd.C_below HI.out HBX.out) HCI.out HC.out).mono ?_; rintro e w2 ⟨hb2, ⟨_, rfl⟩ | ⟨hx, _⟩⟩; rotate_left; (exact absurd hx HE0.out))
    go_ret2
    exact ⟨rfl, HBX.out.trans (hb2.mono HBX.out.size)⟩
end

end Go.Proofs.Ytglckkkjfcomlaa.QQuerylangCompile
