-- Written by gen.py (this repo's wip/), which runs the kit's print.py with more arms. Lean checks it.
import Derived.Test.YtcikmpcacakfbaaQFilewatchBatchesx0
import Derived.Test.YtcikmpcacakfbaaQFilewatchBatchesx1
import Derived.Test.YtcikmpcacakfbaaQFilewatchBatchesx2
import Derived.Test.YtcikmpcacakfbaaQFilewatchBatchesx6
namespace Go.Proofs.Ytcikmpcacakfbaa.QFilewatchBatches
open Go.RowKit Go.Proofs.YtcikmpcacakfbaaW.PrintWords Go.Proofs.YtcikmpcacakfbaaW.PrintLast Go.Proofs.YtcikmpcacakfbaaW.PrintMore
attribute [local go_sem] max2_int min2_int max_two min_two max_three min_three max_four min_four   -- for this text's walks alone
set_option linter.unusedVariables false
set_option linter.unusedSimpArgs false

private theorem isEmpty_bne {α : Type} [BEq α] (l : List α) : (l != []) = !l.isEmpty := by cases l <;> rfl

attribute [local go_sem high] eqA58
section
open Go.Proofs.Ytcikmpcacakfbaa.Hand
theorem merge_f (k : Nat) (a b : Int) : filewatch_Merge.f (k + 2) a b = some (mergeR a b) := by
  have hv : ∀ x, filewatch_validKind.f x = some (val3 x) := by
    intro x
    unfold filewatch_validKind.f val3
    by_cases h : x ≥ 1
    · rw [if_pos h]
      congr 1
      rw [Bool.eq_iff_iff]
      simp
      omega
    · rw [if_neg h]
      congr 1
      symm
      simp
      omega
  unfold filewatch_Merge.f
  simp only [filewatch_Merge.j0, filewatch_Merge.j1, hv, Option.bind_some]
  unfold mergeR
  cases h1 : val3 a <;> cases h2 : val3 b <;> simp
  have k1 := val3_is h1
  have k2 := val3_is h2
  rcases k1 with rfl | rfl | rfl <;> rcases k2 with rfl | rfl | rfl <;> rfl
def encE (e : S58) : Value := .agg #[.int .i64 e.f0, .string e.f1, .int .i64 e.f2]
def encM (m : List (ByteArray × S58)) : List (ByteArray × Value) := m.map (fun p => (p.1, encE p.2))
theorem encM_keys (m : List (ByteArray × S58)) : (encM m).map Prod.fst = m.map Prod.fst := by unfold encM; rw [List.map_map]; rfl
theorem encM_set (m : List (ByteArray × S58)) (x : ByteArray) (v : S58) : mset (encM m) x (encE v) = encM (mset m x v) := (mset_map encE m x v).symm
theorem zero58 (W : World) : (zeroValue 58).run Try.prog W = .ok (encE z58) W := by kernel_rfl
theorem encM_get (m : List (ByteArray × S58)) (x : ByteArray) : (mget (encM m) x).getD (encE z58) = encE ((mget m x).getD z58) := by
  unfold encM
  rw [mget_map encE]
  cases mget m x <;> rfl
theorem field58 (W : World) (a : Int) (b : ByteArray) (c : Int) : (Instr.field 58 (.agg #[.int .i64 a, .string b, .int .i64 c]) 2).run Try.prog W = .ok (.int .i64 c) W := by kernel_rfl
def nbStep (m : List (ByteArray × S58)) (e : S58) : List (ByteArray × S58) := mset m e.f1 ⟨e.f0, e.f1, mergeR ((mget m e.f1).getD z58).f2 e.f2⟩
def nbMap (es : List S58) : List (ByteArray × S58) := es.foldl nbStep []
theorem nbMap_snoc (es : List S58) (e : S58) : nbMap (es ++ [e]) = nbStep (nbMap es) e := by unfold nbMap; rw [List.foldl_append]; rfl
def nbAt (m : List (ByteArray × S58)) (x : ByteArray) : S58 := (mget m x).getD z58
def nbOut (m : List (ByteArray × S58)) (ks : List ByteArray) : List S58 := (ks.map (nbAt m)).filter (fun e => e.f2 != 0)
def nbKeys (es : List S58) : List ByteArray := sortS ((nbMap es).map Prod.fst)
def nbR (es : List S58) : List S58 := nbOut (nbMap es) (nbKeys es)
def nbTime (es : List S58) (delay : Int) : Int := wrap64 ((rd_T58 es ((es.length : Int) - 1)).f0 + delay)
structure NbM (m : List (ByteArray × S58)) (n : Nat) : Prop where
  nodup : (m.map Prod.fst).Nodup
  len : m.length ≤ n
  sizes : ∀ p ∈ m, p.1.size ≤ maxLen
theorem nbMap_is (es : List S58) (h : ∀ e ∈ es, e.f1.size ≤ maxLen) : NbM (nbMap es) es.length := by
  revert h
  refine snoc_ind (P := fun es => (∀ e ∈ es, e.f1.size ≤ maxLen) → NbM (nbMap es) es.length) (fun _ => ⟨List.nodup_nil, Nat.le_refl _, fun p hp => by cases hp⟩) (fun es e ih h => ?_) es
  have hi := ih (fun y hy => h y (List.mem_append.2 (.inl hy)))
  rw [nbMap_snoc, List.length_append, nbStep]
  exact ⟨keys_nodup _ _ hi.nodup, by have := mset_len (nbMap es) e.f1 (⟨e.f0, e.f1, mergeR ((mget (nbMap es) e.f1).getD z58).f2 e.f2⟩ : S58); have := hi.len; simp; omega, fun p hp => by
    rcases mem_keys hp with rfl | hp
    · exact h e (by simp)
    · exact hi.sizes p hp⟩
def NbPost (w : World) (l1 : List S58) (delay : Int) (e : Ending) (w' : World) : Prop := ∃ v, e = .returned (.agg #[.int .i64 (nbTime l1 delay), v]) ∧ Kd.R k58 58 w' w.heap.size (fun _ => True) v (nbR l1) ∧ Below w.heap.size w w'
set_option maxRecDepth 100000 in
set_option maxHeartbeats 16000000 in
theorem newBatch_calls (A1 : Option Addr) (c1 : Nat) (l1 : List S58) (delay : Int) (w : World) (hr1 : Kd.C k58 w A1 l1.length l1) (hl1 : l1.length < 100000) (h0 : 0 < l1.length) (hs1 : ∀ e ∈ l1, e.f1.size ≤ maxLen) :
    Calls Try.prog 47 #[.slice A1 l1.length c1, .int .i64 delay] w (NbPost w l1 delay) := by
  have HR1 := Aside0.mk hr1
  have HL1 := Aside0.mk hl1
  have HP0 := Aside0.mk h0
  have HM := Aside0.mk (nbMap_is l1 hs1)
  clear hr1 hl1 hs1 h0
  have hmm := @run_makeMap Try.prog
  go_enter Try.func47, Try.ntmps47
  go_upto_region 1 with (fail)
  obtain ⟨b, hb⟩ : ∃ b, w.heap.size = b := ⟨_, rfl⟩
  obtain ⟨W1, hW1⟩ : ∃ W1, w.alloc (.cells #[.int .i64 0, .slice none 0 0] 60) = W1 := ⟨_, rfl⟩
  have hb1 : Below b w W1 := by rw [← hb, ← hW1]; exact below_alloc (Below.refl _ _) _
  have hk1 : W1.heap[b]? = some (.cells #[.int .i64 0, .slice none 0 0] 60 (0, 0)) := by rw [← hb, ← hW1]; exact hb_new _ _
  have hz1 : W1.heap.size = b + 1 := by rw [← hb, ← hW1]; simp
  rw [hW1]
  have HBW := Aside0.mk hb
  have HB1 := Aside0.mk hb1
  have HK1 := Aside0.mk hk1
  have HZ1 := Aside0.mk hz1
  try rw [hb]
  clear hb hb1 hk1 hz1 hW1
  go_wp2
  go_loopg [14] l1.length (fun kq v14 W => ∃ i : Nat, v14 = .int .i64 (i : Int) ∧ kq + i = l1.length ∧ Aside0 (MapIs Value.string W W1.heap.size (encM (nbMap (l1.take i))) ∧ Below W1.heap.size W1 W))
  case atStart => exact ⟨0, rfl, by omega, ⟨MapIs.new W1, below_alloc (Below.refl _ _) _⟩⟩
  case round =>
    obtain ⟨i, rfl, hi, hA⟩ := hrel
    cases gk with
    | zero =>
      have HIL := Aside0.mk (show i = l1.length by omega)
      have c0 : decide ((i : Int) < (l1.length : Int)) = false := decide_eq_false (by omega)
      have c0' : decide (i < l1.length) = false := decide_eq_false (by omega)
      clear hi
      have hmi := hA.out
      rw [HIL.out, List.take_length] at hmi
      have HMI := Aside0.mk hmi
      clear hmi hA
      obtain ⟨Wl, rfl⟩ : ∃ Wl, Wl = wr := ⟨_, rfl⟩
      obtain ⟨ad, rfl, x0, hx1_, hx2_⟩ := at_T58 (Kd.C_below HR1.out (HB1.out.trans (HMI.out.2.mono (by have := HZ1.out; omega)) |>.mono (by have := HBW.out; omega))) ((l1.length : Int) - 1) (by have := HP0.out; omega) (by omega)
      have r0 := eq_true (show (0 : Int) ≤ (l1.length : Int) - 1 by have := HP0.out; omega)
      have r0' := eq_true (show (1 : Int) ≤ (l1.length : Int) by have := HP0.out; omega)
      have r1 := eq_true (show (l1.length : Int) - 1 < (l1.length : Int) by omega)
      have q1 := HL1.out
      have q2 := HP0.out
      clear hx1_ hx2_
      rw [show (((l1.length : Int) - 1)).toNat = l1.length - 1 by omega] at x0
      obtain ⟨t, ht⟩ : ∃ t, (rd_T58 l1 ((l1.length : Int) - 1)).f0 = t := ⟨_, rfl⟩
      rw [ht] at x0
      have HT := Aside0.mk (show nbTime l1 delay = wrap64 (t + delay) by unfold nbTime; rw [ht])
      clear ht
      go_upto_region 9 with (fail)
      obtain ⟨g, hg⟩ : ∃ g, Wl.heap.size = g := ⟨_, rfl⟩
      obtain ⟨W8, hW8⟩ : ∃ W8, Wl.alloc (.cells #[.int .i64 (wrap64 (t + delay)), .slice none 0 0] 60) = W8 := ⟨_, rfl⟩
      have hb8 : Below g Wl W8 := by rw [← hW8, ← hg]; exact below_alloc (Below.refl _ _) _
      have hk8 : W8.heap[g]? = some (.cells #[.int .i64 (wrap64 (t + delay)), .slice none 0 0] 60 (0, 0)) := by rw [← hW8, ← hg]; exact hb_new _ _
      have hlt : W1.heap.size < g := by rw [← hg]; exact HMI.out.1.lt
      have hz8 : W8.heap.size = g + 1 := by rw [← hW8, ← hg]; simp
      rw [hW8, hg]
      have HLT := Aside0.mk hlt
      have HMI8 := Aside0.mk (HMI.out.1.below hb8 hlt)
      have HB8 := Aside0.mk (HMI.out.2.trans (hb8.mono (by omega)))
      have HK8 := Aside0.mk hk8
      have HZ8 := Aside0.mk hz8
      clear hg hW8 hb8 hk8 hlt hz8 x0 r0 r0' r1 q1 q2 c0 c0'
      have HS := Aside0.mk (sortedA_calls HMI8.out (by rw [encM_keys]; exact HM.out.nodup) (by unfold encM; rw [List.length_map]; have h1 := HM.out.len; have h2 := HL1.out; omega) (fun p hp => by
        unfold encM at hp
        obtain ⟨q, hq, rfl⟩ := List.mem_map.1 hp
        exact HM.out.sizes q hq))
      go_wp2_with (first
        | (go_at_call 63; refine (keysA_calls _ _).mono ?_; rintro e w9 ⟨rfl, rfl⟩)
        | (go_at_call 51; refine HS.out.mono ?_; rintro e w9 ⟨v9, rfl, ho9, hb9⟩; rw [encM_keys] at ho9; obtain ⟨A9, c9, hv9⟩ := Kd.R_slice ho9; subst hv9; have HO9 := Aside0.mk ho9; have HB9 := Aside0.mk hb9; clear ho9 hb9 hmm))
      obtain ⟨ks, hks⟩ : ∃ ks, sortS ((nbMap l1).map Prod.fst) = ks := ⟨_, rfl⟩
      obtain ⟨m, hm⟩ : ∃ m, nbMap l1 = m := ⟨_, rfl⟩
      have HR := Aside0.mk (show nbR l1 = nbOut m ks by unfold nbR nbKeys; rw [hks, hm])
      have ho9 := HO9.out
      rw [hks] at ho9 ⊢
      have HKL := Aside0.mk (show ks.length < 100000 by
        have h1 := (sortS_perm HM.out.nodup).length_eq
        rw [hks, List.length_map] at h1
        have := HM.out.len
        have := HL1.out
        omega)
      have hb89 : Below W8.heap.size W8 w9 := (below_alloc (Below.refl W8.heap.size W8) _).trans (HB9.out.mono (by omega))
      have hm8 := HMI8.out
      rw [hm] at hm8
      have HK9 := Aside0.mk ((hb89.block _ (lt_of_blk HK8.out)).trans HK8.out)
      have HMI9 := Aside0.mk (hm8.below hb89 hm8.lt)
      have HBB9 := Aside0.mk (HB8.out.trans (hb89.mono HB8.out.size))
      have HO := Aside0.mk ho9
      clear HO9 HS hks hm ho9 hb89 hm8 HMI8
      go_loopg [46] ks.length (fun kq v46 W => ∃ i : Nat, v46 = .int .i64 (i : Int) ∧ kq + i = ks.length ∧ Aside0 (∃ V c, W.heap[g]? = some (.cells #[.int .i64 (wrap64 (t + delay)), .slice V (nbOut m (ks.take i)).length c] 60 (0, 0)) ∧ Kd.R k58 58 W w9.heap.size (fun _ => True) (.slice V (nbOut m (ks.take i)).length c) (nbOut m (ks.take i)) ∧ Chg (fun k => k = g) w9 W))
      case atStart => exact ⟨0, rfl, by omega, ⟨none, 0, HK9.out, Kd.R_nil _ _ _ _ _, Chg.refl _ _⟩⟩
      case round =>
        obtain ⟨i, rfl, hi, hA⟩ := hrel
        obtain ⟨V, c, hkg, hrg, hch⟩ := hA.out
        clear hA
        cases gk with
        | zero =>
          have HIL := Aside0.mk (show i = ks.length by omega)
          have c0 : decide ((i : Int) < (ks.length : Int)) = false := decide_eq_false (by omega)
          have c0' : decide (i < ks.length) = false := decide_eq_false (by omega)
          clear hi
          rw [HIL.out, List.take_length] at hkg hrg
          have HKG := Aside0.mk hkg
          have HRG := Aside0.mk hrg
          have HCH := Aside0.mk hch
          have y0 : wr.cell? ⟨g, 0, none⟩ = some (.int .i64 (wrap64 (t + delay))) := (cells_of_blk hkg 0).trans rfl
          have y1 : wr.cell? ⟨g, 1, none⟩ = some (.slice V (nbOut m ks).length c) := (cells_of_blk hkg 1).trans rfl
          have hbg : b < g := by have := HLT.out; have := HZ1.out; omega
          have hkb : wr.heap[b]? = some (.cells #[.int .i64 0, .slice none 0 0] 60 (0, 0)) := hch.at ((HBB9.out.block b (by have := HZ1.out; omega)).trans HK1.out) (by omega)
          have z0 := free_of_blk hkb 0
          have z1 := free_of_blk hkb 1
          have yb0 : wr.cell? ⟨b, 0, none⟩ = some (.int .i64 0) := (cells_of_blk hkb 0).trans rfl
          have yb1 : wr.cell? ⟨b, 1, none⟩ = some (.slice none 0 0) := (cells_of_blk hkb 1).trans rfl
          have HKB := Aside0.mk hkb
          clear hkg hrg hch hbg hkb
          go_wp2
          have hbg : b < g := by have := HLT.out; have := HZ1.out; omega
          have hww := HBW.out
          have hz1 := HZ1.out
          have hgs : g < w9.heap.size := lt_of_blk HK9.out
          refine bodyPost_ret (results_cell_row (d := _) rfl _ _ b 60 #[.int .i64 (wrap64 (t + delay)), .slice V (nbOut m ks).length c] (0, 0) rfl (by have h := hb_set (hb_set HKB.out 0 (.int .i64 (wrap64 (t + delay)))) 1 (.slice V (nbOut m ks).length c); exact h) Try.underlying60 rfl (by kernel_rfl)) rfl ?_
          refine ⟨.slice V (nbOut m ks).length c, by rw [HT.out], ?_, ?_⟩
          · rw [HR.out]
            refine Kd.R_lower (Kd.R_mono (Kd.R_step (Kd.R_bound HRG.out) (fun k hk _ => ?_)) (fun _ _ => trivial) (ok' := fun _ => True)) (by omega)
            have hk2 := hk.2.1
            exact (Below.heap_setCell _ _ _ _ (by show k ≠ b; omega)).trans (Below.heap_setCell _ _ _ _ (by show k ≠ b; omega))
          · rw [hww]
            have h9 : Below b w w9 := HB1.out.trans (HBB9.out.mono (by omega))
            have hr : Below b w9 wr := HCH.out.to_below (fun k _ e => by omega) (by omega)
            exact ((h9.trans hr).setCell (by show b ≤ b; omega) _).setCell (by show b ≤ b; omega) _
        | succ k2 =>
          have c0 : decide ((i : Int) < (ks.length : Int)) = true := decide_eq_true (by omega)
          have c0' : decide (i < ks.length) = true := decide_eq_true (by omega)
          have hil : i < ks.length := by omega
          obtain ⟨x, hx⟩ : ∃ x, rdOf ByteArray.empty ks (i : Int) = x := ⟨_, rfl⟩
          have hco := (Kd.R_reads' (Kd.R_step (Kd.R_bound HO.out) (fun k hk _ => hch.block k hk.2.2.1 (by have := hk.2.1; have := HZ8.out; omega)))).2.2
          obtain ⟨ad9, rfl, x0⟩ := Kd.at_string hco (i : Int) (by omega) (by omega)
          rw [hx, Int.toNat_natCast] at x0
          have r0 := eq_true (show (0 : Int) ≤ (i : Int) by omega)
          have r1 := eq_true (show (i : Int) < (ks.length : Int) by omega)
          have r2 := eq_true hil
          obtain ⟨y, hy⟩ : ∃ y, nbAt m x = y := ⟨_, rfl⟩
          have hout : nbOut m (ks.take (i + 1)) = nbOut m (ks.take i) ++ (if y.f2 != 0 then [y] else []) := by
            unfold nbOut
            rw [List.take_add_one, List.getElem?_eq_getElem hil, List.map_append, List.filter_append]
            congr 1
            have : ks[i] = x := by rw [← hx]; unfold rdOf; rw [Int.toNat_natCast, List.getD_eq_getElem?_getD, List.getElem?_eq_getElem hil]; rfl
            simp only [Option.toList_some, List.map_cons, List.map_nil, this, hy, List.filter_cons, List.filter_nil]
          have HOUT := Aside0.mk hout
          have hmr : MapIs Value.string wr W1.heap.size (encM m) := HMI9.out.move (hch.block _ HMI9.out.lt (by have := HLT.out; omega))
          have hlk : (Instr.lookup 99 (.map (some W1.heap.size)) (.string x) false).run Try.prog wr = .ok (.agg #[.int .i64 y.f0, .string y.f1, .int .i64 y.f2]) wr := by
            have h := hmr.lookup (keyLaw_string Try.underlying9) Try.underlying99 (zero58 wr) x false
            rw [encM_get, show (mget m x).getD z58 = y from hy] at h
            exact h
          have hfd := field58 wr y.f0 y.f1 y.f2
          have HI := Aside0.mk (show wrap64 ((i : Int) + 1) = ((i + 1 : Nat) : Int) by have := HKL.out; unfold wrap64; omega)
          obtain ⟨os, hos⟩ : ∃ os, nbOut m (ks.take i) = os := ⟨_, rfl⟩
          rw [hos] at hkg hrg
          have HOS := Aside0.mk hos
          have HOL := Aside0.mk (show os.length < 100000 by
            rw [← hos]
            unfold nbOut
            have h1 := List.length_filter_le (fun e : S58 => e.f2 != 0) ((ks.take i).map (nbAt m))
            rw [List.length_map, List.length_take] at h1
            have := HKL.out
            omega)
          have y1 : wr.cell? ⟨g, 1, none⟩ = some (.slice V os.length c) := (cells_of_blk hkg 1).trans rfl
          have HKG := Aside0.mk hkg
          have HRG := Aside0.mk hrg
          have HCH := Aside0.mk hch
          have hgs : g < w9.heap.size := lt_of_blk HK9.out
          have HGS := Aside0.mk hgs
          clear hil hx hout hmr hkg hrg hch hco hos hgs hy
          cases e1 : (y.f2 == 0) with
          | true =>
            have e2 : (y.f2 != 0) = false := by rw [bne, e1]; rfl
            have HE := Aside0.mk e2
            go_wp2
            go_roundg k2
            case measure => omega
            case rel => exact ⟨i + 1, by rw [HI.out], by omega, ⟨V, c, by
              rw [HOUT.out, HOS.out, HE.out]
              simp only [Bool.false_eq_true, if_false, List.append_nil]
              exact ⟨HKG.out, HRG.out, HCH.out⟩⟩⟩
          | false =>
            have e2 : (y.f2 != 0) = true := by rw [bne, e1]; rfl
            have HE := Aside0.mk e2
            go_wp2_with ((with_reducible refine gate_builtin (b := .append) (xs := #[.tmp 56, .tmp 60]) rfl ?_); at_builtin; refine Kd.R_append k58 (w0 := wr) w9.heap.size rfl (.tmp 56) (.tmp 60) 38 58 (.agg #[.int .i64 0, .string ⟨#[]⟩, .int .i64 0]) 32 rfl Try.underlying38 info58 rfl (by decide) (by omega) (.slice V os.length c) os y [.int .i64 y.f0, .string y.f1, .int .i64 y.f2] (fun _ => True) (fun _ => False) rfl rfl (k58_mkM _ _ _ y) (fun _ h => h.elim) (fun _ _ => trivial) HRG.out (Below.refl _ _) HCH.out.size (by have := HOL.out; omega) ?_; intro v5 w5 ho5 hb5 hg5 hat5; (obtain ⟨V5, c5, hv5⟩ := Kd.R_slice ho5); (rw [List.length_append, List.length_singleton] at hv5); subst hv5; (have HO5 := Aside0.mk ho5); (have HB5 := Aside0.mk hb5); (have HK5 := Aside0.mk ((hb5.block g HGS.out).trans HKG.out)); (have z5 := free_of_blk HK5.out 1); (have y5 : w5.cell? ⟨g, 1, none⟩ = some (.slice V os.length c) := (cells_of_blk HK5.out 1).trans rfl); clear ho5 hb5 hg5 hat5 y1 hlk hfd x0)
            go_roundg k2
            case measure => omega
            case rel => exact ⟨i + 1, by rw [HI.out], by omega, ⟨V5, c5, by
              rw [HOUT.out, HOS.out, HE.out]
              simp only [if_true]
              rw [show (os ++ [y]).length = os.length + 1 by simp]
              refine ⟨(by have h := hb_set HK5.out 1 (Value.slice V5 (os.length + 1) c5); exact h), ?_, ?_⟩
              · exact Kd.R_mono (Kd.R_step (Kd.R_bound HO5.out) (fun k hk _ => Below.heap_setCell _ _ _ _ (by have := hk.2.1; have := HGS.out; show k ≠ g; omega))) (fun _ _ => trivial)
              · exact (HCH.out.trans (Chg.of_below (S := fun k => w9.heap.size ≤ k) HB5.out (fun k _ h => h)) (fun k h1 h2 => absurd h1 (Nat.not_lt.2 h2))).trans (Chg.set (S := fun k => k = g) w5 ⟨g, 1, none⟩ _ rfl) (fun k h1 h2 => h2)⟩⟩
    | succ k2 =>
      have c0 : decide ((i : Int) < (l1.length : Int)) = true := decide_eq_true (by omega)
      have c0' : decide (i < l1.length) = true := decide_eq_true (by omega)
      have hil : i < l1.length := by omega
      obtain ⟨x, hx⟩ : ∃ x, rd_T58 l1 (i : Int) = x := ⟨_, rfl⟩
      obtain ⟨ad, rfl, x0, x1, x2⟩ := at_T58 (Kd.C_below HR1.out (HB1.out.trans (hA.out.2.mono (by have := HZ1.out; omega)) |>.mono (by have := HBW.out; omega))) (i : Int) (by omega) (by omega)
      rw [hx, Int.toNat_natCast] at x0 x1 x2
      have r0 := eq_true (show (0 : Int) ≤ (i : Int) by omega)
      have r1 := eq_true (show (i : Int) < (l1.length : Int) by omega)
      have r2 := eq_true hil
      have HST := Aside0.mk (show nbMap (l1.take (i + 1)) = nbStep (nbMap (l1.take i)) x by
        rw [← nbMap_snoc, List.take_add_one, List.getElem?_eq_getElem hil]
        congr 2
        rw [← hx]; unfold rd_T58; rw [Int.toNat_natCast, List.getD_eq_getElem?_getD, List.getElem?_eq_getElem hil]; rfl)
      clear hil hx
      go_upto_region 5 with (fail)
      obtain ⟨g, hg⟩ : ∃ g, wr.heap.size = g := ⟨_, rfl⟩
      obtain ⟨W5, hW5⟩ : ∃ W5, wr.alloc (.cells #[.int .i64 x.f0, .string x.f1, .int .i64 x.f2] 58) = W5 := ⟨_, rfl⟩
      have hb5 : Below wr.heap.size wr W5 := by rw [← hW5]; exact below_alloc (Below.refl _ _) _
      have hk5 : W5.heap[g]? = some (.cells #[.int .i64 x.f0, .string x.f1, .int .i64 x.f2] 58 (0, 0)) := by rw [← hW5, ← hg]; exact hb_new _ _
      have hlt : W1.heap.size < g := by rw [← hg]; exact hA.out.1.lt
      rw [hW5, hg]
      have HG := Aside0.mk hg
      have HLT := Aside0.mk hlt
      have HMI5 := Aside0.mk (hA.out.1.below hb5 hA.out.1.lt)
      have HB5 := Aside0.mk (hA.out.2.trans (hb5.mono hA.out.2.size))
      have HI := Aside0.mk (show wrap64 ((i : Int) + 1) = ((i + 1 : Nat) : Int) by have := HL1.out; unfold wrap64; omega)
      have HK5 := Aside0.mk hk5
      obtain ⟨oe, hoe⟩ : ∃ oe, (mget (nbMap (l1.take i)) x.f1).getD z58 = oe := ⟨_, rfl⟩
      have hlk : (Instr.lookup 99 (.map (some W1.heap.size)) (.string x.f1) false).run Try.prog W5 = .ok (.agg #[.int .i64 oe.f0, .string oe.f1, .int .i64 oe.f2]) W5 := by
        have h := HMI5.out.lookup (keyLaw_string Try.underlying9) Try.underlying99 (zero58 W5) x.f1 false
        rw [encM_get, hoe] at h
        exact h
      have hfd := field58 W5 oe.f0 oe.f1 oe.f2
      have HST2 := Aside0.mk (show nbStep (nbMap (l1.take i)) x = mset (nbMap (l1.take i)) x.f1 ⟨x.f0, x.f1, mergeR oe.f2 x.f2⟩ by unfold nbStep; rw [hoe])
      clear hg hlt hb5 hk5 hW5 r0 r1 r2 c0 c0' x0 x1 x2 hA hoe
      have x1 : W5.cell? ⟨g, 1, none⟩ = some (.string x.f1) := (cells_of_blk HK5.out 1).trans rfl
      have x2 : W5.cell? ⟨g, 2, none⟩ = some (.int .i64 x.f2) := (cells_of_blk HK5.out 2).trans rfl
      go_upto_region 6 with (go_at_call 21; refine (filewatch_Merge.calls 2 _ _ _ _ (merge_f 0 oe.f2 x.f2)).mono ?_; rintro e w9 ⟨rfl, hd9⟩; have hb9 := hd9.below; have HK9 := Aside0.mk ((hb9.block _ (lt_of_blk HK5.out)).trans HK5.out); have HMI9 := Aside0.mk (HMI5.out.below hb9 HMI5.out.lt); have HB9 := Aside0.mk (HB5.out.trans (hb9.mono HB5.out.size)); have y2 : w9.cell? ⟨g, 2, none⟩ = some (.int .i64 x.f2) := (cells_of_blk HK9.out 2).trans rfl; have z2 := free_of_blk HK9.out 2; clear hd9 hb9 x1 x2 hlk hfd)
      obtain ⟨W6, hW6⟩ : ∃ W6, w9.setCell ⟨g, 2, none⟩ (.int .i64 (mergeR oe.f2 x.f2)) = W6 := ⟨_, rfl⟩
      have hk6 : W6.heap[g]? = some (.cells #[.int .i64 x.f0, .string x.f1, .int .i64 (mergeR oe.f2 x.f2)] 58 (0, 0)) := by rw [← hW6]; exact hb_set HK9.out 2 _
      have HMI6 := Aside0.mk (show MapIs Value.string W6 W1.heap.size (encM (nbMap (l1.take i))) by rw [← hW6]; exact HMI9.out.move (Below.heap_setCell _ _ _ _ (by have := HLT.out; show W1.heap.size ≠ g; omega)))
      have HB6 := Aside0.mk (show Below W1.heap.size W1 W6 by rw [← hW6]; exact HB9.out.setCell (by have := HLT.out; show W1.heap.size ≤ g; omega) _)
      rw [hW6]
      clear hW6 y2 z2
      have y0 : W6.cell? ⟨g, 0, none⟩ = some (.int .i64 x.f0) := (cells_of_blk hk6 0).trans rfl
      have y1 : W6.cell? ⟨g, 1, none⟩ = some (.string x.f1) := (cells_of_blk hk6 1).trans rfl
      have y2 : W6.cell? ⟨g, 2, none⟩ = some (.int .i64 (mergeR oe.f2 x.f2)) := (cells_of_blk hk6 2).trans rfl
      clear hk6
      obtain ⟨W7, hrun, hm7, hg7⟩ := HMI6.out.update (keyLaw_string Try.underlying9) Try.underlying99 x.f1 (.agg #[.int .i64 x.f0, .string x.f1, .int .i64 (mergeR oe.f2 x.f2)])
      have HM7 := Aside0.mk hm7
      have HB7 := Aside0.mk (show Below W1.heap.size W1 W7 from HB6.out.trans ((Chg.of_grown (S := fun k => k = W1.heap.size) hg7 (fun k e => (Option.some.inj e).symm)).to_below (fun k _ e => by omega) HB6.out.size))
      clear hm7 hg7
      go_wp2
      go_roundg k2
      case measure => omega
      case rel => exact ⟨i + 1, by rw [HI.out], by omega, ⟨by rw [HST.out, HST2.out, ← encM_set]; exact HM7.out, HB7.out⟩⟩
end
def filewatch_newBatch.f (l0 : List S58) (a1 : Int) : Option (Int × List S58) := if l0.length < 100000 ∧ 0 < l0.length ∧ (∀ e ∈ l0, e.f1.size ≤ maxLen) then some (nbTime l0 a1, nbR l0) else none
theorem filewatch_newBatch.calls (A0 : Option Addr) (c0 : Nat) (l0 : List (S58)) (a1 : Int) (r1 : Int) (r2 : List S58) (w : World) (hr0 : Kd.C k58 w A0 l0.length l0) (hc0 : l0.length ≤ c0) (h : filewatch_newBatch.f l0 a1 = some (r1, r2)) :
    Calls Try.prog 47 #[.slice A0 l0.length c0, .int .i64 a1] w fun e w' => ∃ v1_ : Value, e = .returned (.agg #[.int .i64 r1, v1_]) ∧ Kd.R k58 58 w' w.heap.size (fun _ => True) v1_ r2 ∧ Below w.heap.size w w' := by
  unfold filewatch_newBatch.f at h
  split at h
  case isFalse => cases h
  next hl =>
  injection h with h
  injection h with h1 h2
  subst h1
  subst h2
  exact newBatch_calls A0 c0 l0 a1 w hr0 hl.1 hl.2.1 hl.2.2

/-! ### filewatch_Batches: function 17 -/
mutual
def filewatch_Batches.l0 : Nat → List (S58) → Int → List (S60) → Int → Int → Int → Option ((List (S60)) × Int)
  | 0, _, _, _, _, _, _ => none
  | k + 1, x0, x1, x7, x8, x18, x19 => if x19 < x18 then (if (wrap64 (x19 + 1)) < (x0.length : Int) then (if 0 ≤ (wrap64 (x19 + 1)) then (if 0 ≤ x19 then (if x19 < (x0.length : Int) then (filewatch_Batches.j1 k x0 x1 x7 x8 x19 x18 x19 (decide ((wrap64 (((rd_T58 x0 (wrap64 (x19 + 1))).f0) - ((rd_T58 x0 x19).f0))) < x1))) else (none)) else (none)) else (none)) else (filewatch_Batches.j1 k x0 x1 x7 x8 x19 x18 x19 false)) else (some (x7, 0))
def filewatch_Batches.j1 : Nat → List (S58) → Int → List (S60) → Int → Int → Int → Int → Bool → Option ((List (S60)) × Int)
  | 0, _, _, _, _, _, _, _, _ => none
  | k + 1, x0, x1, x7, x8, x9, x18, x19, x42 => if x42 = true then (filewatch_Batches.l0 k x0 x1 x7 x8 x18 (wrap64 (x19 + 1))) else (if 0 ≤ x8 then (if x8 ≤ (wrap64 (x9 + 1)) then (if (wrap64 (x9 + 1)) ≤ (x0.length : Int) then ((filewatch_newBatch.f ((x0.take ((wrap64 (x9 + 1)) : Int).toNat).drop (x8 : Int).toNat) x1).bind fun bt121 => (if (bt121.2.length : Int) > 0 then (if x7.length < 4398046511104 then (filewatch_Batches.l0 k x0 x1 (x7 ++ [(⟨bt121.1, bt121.2⟩ : S60)]) (wrap64 (x9 + 1)) x18 (wrap64 (x19 + 1))) else (none)) else (filewatch_Batches.l0 k x0 x1 x7 (wrap64 (x9 + 1)) x18 (wrap64 (x19 + 1))))) else (none)) else (none)) else (none))
end
def filewatch_Batches.f (k : Nat) (l0 : List (S58)) (a1 : Int) : Option ((List (S60)) × Int) := (filewatch_validate.f k l0 a1).bind fun t114 => (if t114 = 0 then (filewatch_Batches.l0 k l0 a1 ([] : List (S60)) 0 (l0.length : Int) 0) else (some (([] : List (S60)), t114)))
theorem filewatch_Batches.mono_l : ∀ k, (∀ y0 y1 y2 y3 y4 y5, LeO (filewatch_Batches.l0 k y0 y1 y2 y3 y4 y5) (filewatch_Batches.l0 (k + 1) y0 y1 y2 y3 y4 y5)) ∧ (∀ y0 y1 y2 y3 y4 y5 y6 y7, LeO (filewatch_Batches.j1 k y0 y1 y2 y3 y4 y5 y6 y7) (filewatch_Batches.j1 (k + 1) y0 y1 y2 y3 y4 y5 y6 y7))
  | 0 => ⟨fun _ _ _ _ _ _ r h => by simp [filewatch_Batches.l0] at h, fun _ _ _ _ _ _ _ _ r h => by simp [filewatch_Batches.j1] at h⟩
  | k + 1 => by
    obtain ⟨ih0, ih1⟩ := filewatch_Batches.mono_l k
    refine ⟨?_, ?_⟩
    · intro y0 y1 y2 y3 y4 y5
      unfold filewatch_Batches.l0
      repeat' first
      | (with_reducible exact ih0 _ _ _ _ _ _)
      | (with_reducible exact ih1 _ _ _ _ _ _ _ _)
      | (with_reducible exact filewatch_validate.mono _ _ _)
      | (with_reducible exact LeO.refl _)
      | (with_reducible exact LeO.none _)
      | (with_reducible refine LeO.ite ?_ ?_)
      | (with_reducible refine LeO.bind ?_ (fun _ => ?_))
      | exact ih0 _ _ _ _ _ _
      | exact ih1 _ _ _ _ _ _ _ _
      | exact filewatch_validate.mono _ _ _
      | exact LeO.none _
      | refine LeO.ite ?_ ?_
      | refine LeO.bind ?_ (fun _ => ?_)
    · intro y0 y1 y2 y3 y4 y5 y6 y7
      unfold filewatch_Batches.j1
      repeat' first
      | (with_reducible exact ih0 _ _ _ _ _ _)
      | (with_reducible exact ih1 _ _ _ _ _ _ _ _)
      | (with_reducible exact filewatch_validate.mono _ _ _)
      | (with_reducible exact LeO.refl _)
      | (with_reducible exact LeO.none _)
      | (with_reducible refine LeO.ite ?_ ?_)
      | (with_reducible refine LeO.bind ?_ (fun _ => ?_))
      | exact ih0 _ _ _ _ _ _
      | exact ih1 _ _ _ _ _ _ _ _
      | exact filewatch_validate.mono _ _ _
      | exact LeO.none _
      | refine LeO.ite ?_ ?_
      | refine LeO.bind ?_ (fun _ => ?_)
theorem filewatch_Batches.mono : ∀ a0 a1 k, LeO (filewatch_Batches.f k a0 a1) (filewatch_Batches.f (k + 1) a0 a1) := by
  intro a0 a1 k
  obtain ⟨ih0, ih1⟩ := filewatch_Batches.mono_l k
  unfold filewatch_Batches.f
  repeat' first
      | (with_reducible exact ih0 _ _ _ _ _ _)
      | (with_reducible exact ih1 _ _ _ _ _ _ _ _)
      | (with_reducible exact filewatch_validate.mono _ _ _)
      | (with_reducible exact LeO.refl _)
      | (with_reducible exact LeO.none _)
      | (with_reducible refine LeO.ite ?_ ?_)
      | (with_reducible refine LeO.bind ?_ (fun _ => ?_))
      | exact ih0 _ _ _ _ _ _
      | exact ih1 _ _ _ _ _ _ _ _
      | exact filewatch_validate.mono _ _ _
      | exact LeO.none _
      | refine LeO.ite ?_ ?_
      | refine LeO.bind ?_ (fun _ => ?_)
set_option maxHeartbeats 8000000 in
set_option maxRecDepth 100000 in
theorem filewatch_Batches.calls (k : Nat) (A0 : Option Addr) (c0 : Nat) (l0 : List (S58)) (a1 : Int) (r1 : List (S60)) (r2 : Int) (w : World) (hr0 : Kd.C k58 w A0 l0.length l0) (hc0 : l0.length ≤ c0) (h : filewatch_Batches.f k l0 a1 = some (r1, r2)) :
    Calls Try.prog 17 #[.slice A0 l0.length c0, .int .i64 a1] w fun e w' => ∃ v0_ : Value, e = .returned (.tuple #[v0_, .int .i64 r2]) ∧ Kd.S k60 60 w' w.heap.size (fun _ => True) v0_ r1 ∧ Below w.heap.size w w' := by
  have hu60 := Try.underlying60
  have HR0 := Aside0.mk hr0
  have HC0 := Aside0.mk hc0
  clear hr0 hc0
  have HB := Aside0.mk (Below.refl w.heap.size w)
  have H : ((filewatch_validate.f k l0 a1).bind fun t114 => (if t114 = 0 then (filewatch_Batches.l0 k l0 a1 ([] : List (S60)) 0 (l0.length : Int) 0) else (some (([] : List (S60)), t114)))) = some (r1, r2) := h
  clear h
  replace H := Option.bind_eq_some_iff.mp H
  obtain ⟨t114, A30, H⟩ := H
  replace H : (if t114 = 0 then (filewatch_Batches.l0 k l0 a1 ([] : List (S60)) 0 (l0.length : Int) 0) else (some (([] : List (S60)), t114))) = some (r1, r2) := H
  have A3 := Aside0.mk A30
  clear A30
  by_cases c4 : t114 = 0
  · rw [if_pos c4] at H
    have c4b0 : (t114 == 0) = true := beq_iff_eq.mpr c4
    have c4b1 : (t114 != 0) = false := bne_eq_false_iff_eq.mpr c4
    clear c4
    have H' := Aside0.mk H
    clear H
    go_enter Try.func17, Try.ntmps17
    go_wp2_with (first | (go_at_call 46; (with_reducible refine (filewatch_validate.calls k _ _ l0 a1 t114 _ ?side1 ?side2 A3.out).mono ?_); (case side1 => repeat (first | exact HR0.out | (with_reducible refine Kd.C_alloc ?_ _) | (with_reducible refine Kd.C_drewN ?_ _) | (with_reducible refine Kd.C_drew ?_))); (case side2 => exact HC0.out); rintro e w5 ⟨rfl, hb⟩; have n0_ := Aside0.mk (below_step (by repeat (first | (with_reducible first | exact HB.out | apply below_alloc | apply pw_below_drewN | apply below_drew1) | exact HB.out)) hb); clear HB; have HB := n0_; clear n0_; (try clear hb); (try clear hb2); (try clear hk); (try clear hi)))
    repeat (go_quiet (fail); try go_wp2)
    go_loopg [7, 8, 19] k (fun kq v7 v8 v19 w' => ∃ (x7_1 : List (S60)) (x8_1 : Int) (x19_1 : Int), v8 = .int .i64 x8_1 ∧ v19 = .int .i64 x19_1 ∧ Aside0 (filewatch_Batches.l0 kq l0 a1 x7_1 x8_1 (l0.length : Int) x19_1 = some (r1, r2)) ∧ Aside0 (kq ≤ k) ∧ Aside0 (Kd.S k60 60 w' w.heap.size (fun _ => True) v7 x7_1) ∧ Aside0 (Below w.heap.size w w'))
    case atStart => exact ⟨(([] : List (S60))), (0), (0), (by first | rfl | (simp; done) | (simp [*]; done) | (simp [isEmpty_bne]; done)), (by first | rfl | (simp; done) | (simp [*]; done) | (simp [isEmpty_bne]; done)), H', ⟨Nat.le_refl _⟩, ⟨by first | exact Kd.S_nil _ _ _ _ _ | exact Kd.N_nil _ _ _ _ _ | exact Kd.V_nil _ _ _ _ _ | exact Kd.Q_nil _ _ _ _ _ | exact Kd.R_nil _ _ _ _ _⟩, ⟨by repeat (first | (with_reducible first | exact HB.out | apply below_alloc | apply pw_below_drewN | apply below_drew1) | exact HB.out)⟩⟩
    case round =>
      clear H'
      try clear c1
      try clear p2
      try clear c4
      try clear c4b0
      try clear c4b1
      obtain ⟨x7_1, x8_1, x19_1, rfl, rfl, HA, HK1, HO_7, HB⟩ := hrel
      cases gk with
      | zero => exact absurd HA.out (by simp [filewatch_Batches.l0])
      | succ k1 =>
        have H := HA.out
        clear HA
        simp only [filewatch_Batches.l0] at H
        by_cases c6 : x19_1 < (l0.length : Int)
        · rw [if_pos c6] at H
          have c6b0 : decide (x19_1 < (l0.length : Int)) = true := decide_eq_true c6
          clear c6
          have HC7 := Aside0.mk H
          clear H
          go_upto_region 9 with (fail)
          repeat (go_quiet (fail); go_upto_region 9 with (fail))
          go_cut [42] (fun v42 wc => ∃ (kq : Nat) (x42_6 : Bool), v42 = .bool x42_6 ∧ Aside0 (filewatch_Batches.j1 kq l0 a1 x7_1 x8_1 x19_1 (l0.length : Int) x19_1 x42_6 = some (r1, r2)) ∧ Aside0 (kq ≤ k1) ∧ Aside0 (Kd.S k60 60 wc w.heap.size (fun _ => True) u7 x7_1) ∧ Aside0 (Below w.heap.size w wc))
          case first =>
            have H := HC7.out
            clear HC7
            by_cases c8 : (wrap64 (x19_1 + 1)) < (l0.length : Int)
            · rw [if_pos c8] at H
              have c8b0 : decide ((wrap64 (x19_1 + 1)) < (l0.length : Int)) = true := decide_eq_true c8
              clear c8
              (first | rw [c8b0] | (simp only [i64_w, i32_w]; rw [c8b0]) | skip)
              obtain ⟨ji9, hji9⟩ : ∃ j_ : Int, (wrap64 (x19_1 + 1)) = j_ := ⟨_, rfl⟩
              replace H : (if 0 ≤ (ji9) then (if 0 ≤ x19_1 then (if x19_1 < (l0.length : Int) then (filewatch_Batches.j1 k1 l0 a1 x7_1 x8_1 x19_1 (l0.length : Int) x19_1 (decide ((wrap64 (((rd_T58 l0 (ji9)).f0) - ((rd_T58 l0 x19_1).f0))) < a1))) else (none)) else (none)) else (none)) = some (r1, r2) := by first | (rw [hji9] at H; exact H) | (simp only [hji9] at H ⊢; exact H)
              (try rw [hji9] at c8b0)
              have hji9w : (IntKind.i64.wrap (x19_1 + 1)) = ji9 := (i64_w _).trans hji9
              by_cases c10 : 0 ≤ (ji9)
              · rw [if_pos c10] at H
                have c10b0 : decide (0 ≤ (ji9)) = true := decide_eq_true c10
                clear c10
                by_cases c11 : 0 ≤ x19_1
                · rw [if_pos c11] at H
                  have c11b0 : decide (0 ≤ x19_1) = true := decide_eq_true c11
                  clear c11
                  by_cases c12 : x19_1 < (l0.length : Int)
                  · rw [if_pos c12] at H
                    have c12b0 : decide (x19_1 < (l0.length : Int)) = true := decide_eq_true c12
                    clear c12
                    have H' := Aside0.mk H
                    clear H
                    have p115 : 0 ≤ ((ji9) : Int) := of_decide_eq_true (by first | (with_reducible assumption) | assumption)
                    have q115 : (ji9) < (l0.length : Int) := of_decide_eq_true (by first | (with_reducible assumption) | assumption)
                    obtain ⟨ad115, e115, hx115_0, hx115_1, hx115_2⟩ := at_T58 HR0.out (ji9) p115 q115
                    cases e115
                    replace hx115_0 := (HB.out.cell (World.block_lt_of_cell? w _ hx115_0)).trans hx115_0
                    replace hx115_1 := (HB.out.cell (World.block_lt_of_cell? w _ hx115_1)).trans hx115_1
                    replace hx115_2 := (HB.out.cell (World.block_lt_of_cell? w _ hx115_2)).trans hx115_2
                    replace p115 := eq_true p115
                    replace q115 := eq_true q115
                    have p116 : 0 ≤ (x19_1 : Int) := of_decide_eq_true (by first | (with_reducible assumption) | assumption)
                    have q116 : x19_1 < (l0.length : Int) := of_decide_eq_true (by first | (with_reducible assumption) | assumption)
                    obtain ⟨ad116, e116, hx116_0, hx116_1, hx116_2⟩ := at_T58 HR0.out x19_1 p116 q116
                    obtain rfl : ad115 = ad116 := (by injection e116)
                    replace hx116_0 := (HB.out.cell (World.block_lt_of_cell? w _ hx116_0)).trans hx116_0
                    replace hx116_1 := (HB.out.cell (World.block_lt_of_cell? w _ hx116_1)).trans hx116_1
                    replace hx116_2 := (HB.out.cell (World.block_lt_of_cell? w _ hx116_2)).trans hx116_2
                    replace p116 := eq_true p116
                    replace q116 := eq_true q116
                    go_wp2
                    repeat (go_quiet (fail); try go_wp2)
                    go_meet
                    case rel => exact ⟨_, (decide ((wrap64 (((rd_T58 l0 (ji9)).f0) - ((rd_T58 l0 x19_1).f0))) < a1)), (by first | rfl | (simp; done) | (simp only [← hji9] <;> (first | rfl | simp)) | (simp [*]; done)), H', ⟨by have := HK1.out; first | omega | exact Nat.le_refl _⟩, ⟨by (with_reducible repeat (first | apply Kd.S_alloc | apply Kd.S_drewN | apply Kd.S_drew)); exact HO_7.out⟩, ⟨by repeat (first | (with_reducible first | exact HB.out | apply below_alloc | apply pw_below_drewN | apply below_drew1) | exact HB.out)⟩⟩
                  · rw [if_neg c12] at H
                    exact absurd H (by simp)
                · rw [if_neg c11] at H
                  exact absurd H (by simp)
              · rw [if_neg c10] at H
                exact absurd H (by simp)
            · rw [if_neg c8] at H
              have c8b0 : decide ((wrap64 (x19_1 + 1)) < (l0.length : Int)) = false := decide_eq_false c8
              clear c8
              (first | rw [c8b0] | (simp only [i64_w, i32_w]; rw [c8b0]) | skip)
              have H' := Aside0.mk H
              clear H
              go_wp2
              repeat (go_quiet (fail); try go_wp2)
              go_meet
              case rel => exact ⟨_, (false), (by first | rfl | (simp; done) | (simp [*]; done) | (simp [isEmpty_bne]; done)), H', ⟨by have := HK1.out; first | omega | exact Nat.le_refl _⟩, ⟨by (with_reducible repeat (first | apply Kd.S_alloc | apply Kd.S_drewN | apply Kd.S_drew)); exact HO_7.out⟩, ⟨by repeat (first | (with_reducible first | exact HB.out | apply below_alloc | apply pw_below_drewN | apply below_drew1) | exact HB.out)⟩⟩
          case rest =>
            clear HC7
            try clear c1
            try clear p1
            try clear q1
            try clear hx1
            try clear p2
            try clear c4
            try clear c4b0
            try clear c4b1
            try clear c6
            try clear c6b0
            try clear p6
            try clear c8
            try clear c8b0
            try clear c10
            try clear c10b0
            try clear c11
            try clear c11b0
            try clear p11
            try clear q11
            try clear hx11
            try clear c12
            try clear c12b0
            try clear hx115_0
            try clear hx115_1
            try clear hx115_2
            try clear hx116_0
            try clear hx116_1
            try clear hx116_2
            try clear p115
            try clear p116
            try clear p2
            try clear q115
            try clear q116
            obtain ⟨kq, x42_6, rfl, HA, HJ6, HO_7, HB⟩ := hcut
            cases kq with
            | zero => exact absurd HA.out (by simp [filewatch_Batches.j1])
            | succ kj6 =>
              have H := HA.out
              clear HA
              simp only [filewatch_Batches.j1] at H
              by_cases c13 : x42_6 = true
              · subst c13
                have H1 : (filewatch_Batches.l0 kj6 l0 a1 x7_1 x8_1 (l0.length : Int) (wrap64 (x19_1 + 1))) = some (r1, r2) := by rw [if_pos rfl] at H; exact H
                clear H
                have H := H1
                clear H1
                have H' := Aside0.mk H
                clear H
                go_wp2
                repeat (go_quiet (fail); try go_wp2)
                go_roundg kj6
                case measure => have := HK1.out; have := HJ6.out; omega
                case rel => exact ⟨(x7_1), (x8_1), (wrap64 (x19_1 + 1)), (by first | rfl | (simp; done) | (simp [*]; done) | (simp [isEmpty_bne]; done)), (by first | rfl | (simp; done) | (simp [*]; done) | (simp [isEmpty_bne]; done)), H', ⟨by have := HK1.out; have := HJ6.out; omega⟩, ⟨by (with_reducible repeat (first | apply Kd.S_alloc | apply Kd.S_drewN | apply Kd.S_drew)); exact HO_7.out⟩, ⟨by repeat (first | (with_reducible first | exact HB.out | apply below_alloc | apply pw_below_drewN | apply below_drew1) | exact HB.out)⟩⟩
              · replace c13 := Bool.eq_false_iff.mpr c13
                subst c13
                have H1 : (if 0 ≤ x8_1 then (if x8_1 ≤ (wrap64 (x19_1 + 1)) then (if (wrap64 (x19_1 + 1)) ≤ (l0.length : Int) then ((filewatch_newBatch.f ((l0.take ((wrap64 (x19_1 + 1)) : Int).toNat).drop (x8_1 : Int).toNat) a1).bind fun bt121 => (if (bt121.2.length : Int) > 0 then (if x7_1.length < 4398046511104 then (filewatch_Batches.l0 kj6 l0 a1 (x7_1 ++ [(⟨bt121.1, bt121.2⟩ : S60)]) (wrap64 (x19_1 + 1)) (l0.length : Int) (wrap64 (x19_1 + 1))) else (none)) else (filewatch_Batches.l0 kj6 l0 a1 x7_1 (wrap64 (x19_1 + 1)) (l0.length : Int) (wrap64 (x19_1 + 1))))) else (none)) else (none)) else (none)) = some (r1, r2) := by rw [if_neg (show ¬ (false = true) by decide)] at H; exact H
                clear H
                have H := H1
                clear H1
                by_cases c14 : 0 ≤ x8_1
                · rw [if_pos c14] at H
                  have c14b0 := eq_true c14
                  have c14b1 : decide (0 ≤ x8_1) = true := decide_eq_true c14
                  clear c14
                  by_cases c15 : x8_1 ≤ (wrap64 (x19_1 + 1))
                  · rw [if_pos c15] at H
                    have c15b0 := eq_true c15
                    have c15b1 : decide (x8_1 ≤ (wrap64 (x19_1 + 1))) = true := decide_eq_true c15
                    by_cases c16 : (wrap64 (x19_1 + 1)) ≤ (l0.length : Int)
                    · rw [if_pos c16] at H
                      have c16b0 := eq_true c16
                      have c16b1 : decide ((wrap64 (x19_1 + 1)) ≤ (l0.length : Int)) = true := decide_eq_true c16
                      obtain ⟨y117, hy117⟩ : ∃ y_ : List (S58), y_ = ((l0.take ((wrap64 (x19_1 + 1)) : Int).toNat).drop (x8_1 : Int).toNat) := ⟨_, rfl⟩
                      replace H : ((filewatch_newBatch.f y117 a1).bind fun bt121 => (if (bt121.2.length : Int) > 0 then (if x7_1.length < 4398046511104 then (filewatch_Batches.l0 kj6 l0 a1 (x7_1 ++ [(⟨bt121.1, bt121.2⟩ : S60)]) (wrap64 (x19_1 + 1)) (l0.length : Int) (wrap64 (x19_1 + 1))) else (none)) else (filewatch_Batches.l0 kj6 l0 a1 x7_1 (wrap64 (x19_1 + 1)) (l0.length : Int) (wrap64 (x19_1 + 1))))) = some (r1, r2) := by first | (rw [hy117]; with_reducible exact H) | (have H2_ := (Option.bind_some _ _).symm.trans H; rw [hy117]; with_reducible exact H2_) | (have H2_ := (Option.bind_some _ _).symm.trans H; with_reducible exact H2_) | with_reducible exact H | (rw [hy117]; exact H) | exact H
                      have Ny117 := Aside0.mk hy117
                      clear hy117
                      replace H := Option.bind_eq_some_iff.mp H
                      obtain ⟨⟨t121, t122⟩, A170, H⟩ := H
                      replace H : (if (t122.length : Int) > 0 then (if x7_1.length < 4398046511104 then (filewatch_Batches.l0 kj6 l0 a1 (x7_1 ++ [(⟨t121, t122⟩ : S60)]) (wrap64 (x19_1 + 1)) (l0.length : Int) (wrap64 (x19_1 + 1))) else (none)) else (filewatch_Batches.l0 kj6 l0 a1 x7_1 (wrap64 (x19_1 + 1)) (l0.length : Int) (wrap64 (x19_1 + 1)))) = some (r1, r2) := H
                      have A17 := Aside0.mk A170
                      clear A170
                      by_cases c18 : (t122.length : Int) > 0
                      · rw [if_pos c18] at H
                        have c18b0 : decide (0 < (t122.length : Int)) = true := decide_eq_true c18
                        have c18b1 : decide (0 < t122.length) = true := decide_eq_true (by omega)
                        clear c18
                        by_cases c19 : x7_1.length < 4398046511104
                        · rw [if_pos c19] at H
                          have LMc19 := Aside0.mk c19
                          clear c19
                          obtain ⟨y126, hy126⟩ : ∃ y_ : List (S60), y_ = (x7_1 ++ [(⟨t121, t122⟩ : S60)]) := ⟨_, rfl⟩
                          replace H : (filewatch_Batches.l0 kj6 l0 a1 y126 (wrap64 (x19_1 + 1)) (l0.length : Int) (wrap64 (x19_1 + 1))) = some (r1, r2) := by first | (rw [hy126]; with_reducible exact H) | (have H2_ := (Option.bind_some _ _).symm.trans H; rw [hy126]; with_reducible exact H2_) | (have H2_ := (Option.bind_some _ _).symm.trans H; with_reducible exact H2_) | with_reducible exact H | (rw [hy126]; exact H) | exact H
                          have Ny126 := Aside0.mk hy126
                          clear hy126
                          have H' := Aside0.mk H
                          clear H
                          have q20 : ((wrap64 (x19_1 + 1)) : Int) ≤ ((l0.length : Int) : Int) := of_decide_eq_true (by first | (with_reducible assumption) | assumption)
                          obtain ⟨i020, hi020, _, hsz20, _⟩ := info_parts info58
                          have hroom20 : l0.length ≤ c0 := HC0.out
                          have hC20 : Kd.C k58 _ A0 l0.length l0 := HR0.out
                          have ql20 : (x8_1 : Int) ≤ ((wrap64 (x19_1 + 1)) : Int) := of_decide_eq_true (by first | (with_reducible assumption) | assumption)
                          have q020 : (0 : Int) ≤ (x8_1 : Int) := of_decide_eq_true (by first | (with_reducible assumption) | assumption)
                          have hcut20 := cut_mid (P := Try.prog) 38 58 .i64 .i64 Try.underlying38 hi020 3 hsz20 A0 l0.length c0 x8_1 (wrap64 (x19_1 + 1)) q020 ql20 q20 hroom20
                          have hr20 := Kd.C_mid (lo := (x8_1 : Int).toNat) (hi := ((wrap64 (x19_1 + 1)) : Int).toNat) (c := c0) hC20 (by omega) (by omega) hroom20
                          obtain ⟨A20, hA20⟩ : ∃ A1, A1 = (if c0 = (x8_1 : Int).toNat then A0 else (A0 : Option Addr).map (·.add ((x8_1 : Int).toNat * 3))) := ⟨_, rfl⟩
                          obtain ⟨c20, hc20⟩ : ∃ c1, c1 = c0 - (x8_1 : Int).toNat := ⟨_, rfl⟩
                          have hy20 : y117.length = ((wrap64 (x19_1 + 1)) : Int).toNat - (x8_1 : Int).toNat := (by rw [Ny117.out, List.length_drop, List.length_take] <;> omega)
                          rw [show ((l0).take ((wrap64 (x19_1 + 1)) : Int).toNat).drop (x8_1 : Int).toNat = y117 from Ny117.out.symm] at hr20
                          replace hr20 : Kd.C k58 _ A20 y117.length y117 := (by rw [hA20]; exact hr20)
                          rw [← hy20, ← hA20, ← hc20] at hcut20
                          have HR120 := Aside0.mk hr20
                          have HC120 := Aside0.mk (show y117.length ≤ c20 from by rw [hy20, hc20]; exact Nat.sub_le_sub_right (Nat.le_trans (by omega) hroom20) _)
                          clear hr20 hC20 hroom20 hi020 hsz20 hc20
                          have KY20 := Aside0.mk hy20
                          have KA20 := Aside0.mk hA20
                          clear hy20 hA20
                          replace q20 := eq_true q20
                          go_wp2_with (first | (go_at_call 47; (with_reducible refine (filewatch_newBatch.calls _ _ y117 a1 t121 t122 _ ?side1 ?side2 A17.out).mono ?_); (case side1 => repeat (first | exact (Kd.C_below HR120.out HB.out) | (with_reducible refine Kd.C_alloc ?_ _) | (with_reducible refine Kd.C_drewN ?_ _) | (with_reducible refine Kd.C_drew ?_))); (case side2 => exact HC120.out); rintro e w21 ⟨v123, rfl, ho0, hb⟩; have n0_ := Aside0.mk (Kd.S_elder' (by (with_reducible repeat (first | apply Kd.S_alloc | apply Kd.S_drewN | apply Kd.S_drew)); exact HO_7.out) (Kd.R_base ho0) hb); have n1_ := Aside0.mk (Kd.R_lower ho0 (below_size (by repeat (first | (with_reducible first | exact HB.out | apply below_alloc | apply pw_below_drewN | apply below_drew1) | exact HB.out)))); have n2_ := Aside0.mk (below_step (by repeat (first | (with_reducible first | exact HB.out | apply below_alloc | apply pw_below_drewN | apply below_drew1) | exact HB.out)) hb); clear HO_7; clear HB; have HO_7 := n0_; have HO124 := n1_; have HB := n2_; clear n0_ n1_ n2_; (try clear hb); (try clear hb2); (try clear hk); (try clear hi); (try clear ho0)) | ((with_reducible refine gate_dst (N := 10) rfl ?_); refine box_event ?hg (N := 10) ?hd (cs := #[.int .i64 0, .slice none 0 0]) (t := 60) ?hr ?_; (case hd => rfl); (case hg => rfl); (case hr => first | (go_simp; done) | (go_simp; rfl)); intro gb125 hg w22 hbox hb; have n0_ := Aside0.mk (Kd.S_below (Kd.S_elderB (by (with_reducible repeat (first | apply Kd.S_alloc | apply Kd.S_drewN | apply Kd.S_drew)); exact HO_7.out) gb125 (Nat.le_of_eq hg.symm)) hb); have n1_ := Aside0.mk (Kd.R_below (by (with_reducible repeat (first | apply Kd.R_alloc | apply Kd.R_drewN | apply Kd.R_drew)); exact HO124.out) hb); have n2_ := Aside0.mk (below_step (by repeat (first | (with_reducible first | exact HB.out | apply below_alloc | apply pw_below_drewN | apply below_drew1) | exact HB.out)) hb); have n3_ := Aside0.mk (hbox); have n4_ := Aside0.mk ((by rw [hg]; exact (below_size (by repeat (first | (with_reducible first | exact HB.out | apply below_alloc | apply pw_below_drewN | apply below_drew1) | exact HB.out))) : w.heap.size ≤ gb125)); have n5_ := Aside0.mk ((by rw [hg]; exact (below_size (by repeat (first | (with_reducible first | exact HB.out | apply below_alloc | apply pw_below_drewN | apply below_drew1) | exact HB.out))) : w.heap.size ≤ gb125)); clear HO_7; clear HO124; clear HB; have HO_7 := n0_; have HO124 := n1_; have HB := n2_; have BK125 := n3_; have GW125 := n4_; have GE125 := n5_; clear n0_ n1_ n2_ n3_ n4_ n5_; clear hb hbox hg; have hcz23_0 : w22.cell? ⟨gb125, 0, none⟩ = some (.int .i64 0) := (blk_cell BK125.out 0).trans rfl; have hcz23_1 : w22.cell? ⟨gb125, 1, none⟩ = some (.slice none 0 0) := (blk_cell BK125.out 1).trans rfl; have hfz23_0 := blk_frozen BK125.out 0; have hfz23_1 := blk_frozen BK125.out 1; obtain ⟨Ao24, co24, eo24⟩ := Kd.R_slice HO124.out; subst eo24) | ((with_reducible refine gate_store (t := 60) (p := 10) rfl ?_); (try (rw [drewN_self w22]; generalize hq_ : World.drewN w22 _ = w22; have n0_ := Aside0.mk (Kd.S_at hq_ HO_7.out); have n1_ := Aside0.mk (Kd.R_at hq_ HO124.out); have n2_ := Aside0.mk (blk_at hq_ BK125.out); have n3_ := Aside0.mk (below_at hq_ HB.out); clear hq_ HO_7 HO124 BK125 HB; have HO_7 := n0_; have HO124 := n1_; have BK125 := n2_; have HB := n3_; clear n0_ n1_ n2_ n3_)); refine store_event (t := 60) (p := 10) (v := ?vo_w25) (w1 := ((w22.setCell ⟨gb125, 0, none⟩ (.int .i64 t121)).setCell ⟨gb125, 1, none⟩ (.slice Ao24 t122.length co24))) ?hg ?ho ?hn ?hr ?_; (case ho => rfl); (case hg => rfl); (case hn => rfl); (case hr => first | (go_simp; done) | (go_simp; rfl)); intro w25 hw; have n0_ : Aside0 (Kd.S k60 60 w25 w.heap.size (fun k_ => some k_ ≠ (.slice Ao24 t122.length co24 : Value).ownBlock ∧ k_ ≠ gb125) u7 x7_1) := ⟨(by rw [hw]; exact (by (with_reducible repeat (first | apply Kd.S_alloc | apply Kd.S_drewN | apply Kd.S_drew)); exact Kd.S_mono (Kd.S_far (p := ⟨gb125, 1, none⟩) (Kd.S_far (p := ⟨gb125, 0, none⟩) (Kd.S_mono HO_7.out (fun k_ hk => (⟨hk, hk.2⟩ : _ ∧ k_ ≠ gb125))) (fun _ hk => hk.2) (.int .i64 t121)) (fun _ hk => hk.2) (.slice Ao24 t122.length co24)) (fun _ hk => ⟨hk.1.1.2, hk.1.2⟩)))⟩; have n1_ : Aside0 (Kd.R k58 58 w25 w.heap.size (fun _ => True) (.slice Ao24 t122.length co24) t122) := ⟨(by rw [hw]; exact (by (with_reducible repeat (first | apply Kd.R_alloc | apply Kd.R_drewN | apply Kd.R_drew)); exact Kd.R_mono (Kd.R_far (p := ⟨gb125, 1, none⟩) (Kd.R_far (p := ⟨gb125, 0, none⟩) (Kd.R_types HO124.out BK125.out (by decide)) (fun _ hk => hk.2) (.int .i64 t121)) (fun _ hk => hk.2) (.slice Ao24 t122.length co24)) (fun _ hk => trivial)))⟩; have n2_ : Aside0 (w25.heap[gb125]? = some (.cells #[.int .i64 t121, .slice Ao24 t122.length co24] 60 (0, 0))) := ⟨(by rw [hw]; exact (by (with_reducible repeat (first | refine blk_drewN ?_ _ | refine blk_drew ?_ | refine blk_alloc ?_ _)); refine blk_put (cs := #[.int .i64 t121, .slice none 0 0]) ?_ 1 _ rfl; (with_reducible repeat (first | refine blk_drewN ?_ _ | refine blk_drew ?_ | refine blk_alloc ?_ _)); refine blk_put (cs := #[.int .i64 0, .slice none 0 0]) ?_ 0 _ rfl; (with_reducible repeat (first | refine blk_drewN ?_ _ | refine blk_drew ?_ | refine blk_alloc ?_ _)); exact BK125.out))⟩; have n3_ : Aside0 (Below w.heap.size w w25) := ⟨(by rw [hw]; exact (by repeat (first | (with_reducible first | exact HB.out | apply below_alloc | apply pw_below_drewN | apply below_drew1 | refine below_set ?_ GE125.out) | exact HB.out)))⟩; clear hw; clear HO_7; clear HO124; clear BK125; clear HB; have HO_7 := n0_; have HO124 := n1_; have BK125 := n2_; have HB := n3_; clear n0_ n1_ n2_ n3_; have hcz26_0 : w25.cell? ⟨gb125, 0, none⟩ = some (.int .i64 t121) := (blk_cell BK125.out 0).trans rfl; have hcz26_1 : w25.cell? ⟨gb125, 1, none⟩ = some (.slice Ao24 t122.length co24) := (blk_cell BK125.out 1).trans rfl; have hfz26_0 := blk_frozen BK125.out 0; have hfz26_1 := blk_frozen BK125.out 1) | ((with_reducible refine gate_builtin (b := .append) (xs := #[.tmp 54, .tmp 56]) rfl ?_); at_builtin; refine Kd.S_append k60 (w0 := w) w.heap.size rfl (.tmp 54) (.tmp 56) 40 60 (.agg #[(.int .i64 0), (.slice none 0 0)]) 32 rfl Try.underlying40 info60 rfl (by decide) (by omega) u7 x7_1 (⟨t121, t122⟩ : S60) [.int .i64 t121, .slice Ao24 t122.length co24] (fun k_ => k_ ≠ gb125) (fun k_ => some k_ = (.slice Ao24 t122.length co24 : Value).ownBlock) rfl rfl ?aP (fun k_ hk_ => ((Kd.R_mono (ok' := fun k_ => ((fun k_ => k_ ≠ gb125)) k_ ∧ some k_ ≠ (u7 : Value).ownBlock) (Kd.R_types (Kd.R_apart' (HO124.out) (Kd.S_typed HO_7.out) (by decide)) BK125.out (by decide)) (fun k_ hk => ⟨hk.2, hk.1.2⟩))).1 k_ hk_.symm) ?aF ?aO ?aB ?aS ?aL ?_; (case aP => exact k60_mkM _ _ _ (⟨t121, t122⟩ : S60) (Kd.R_mono (Kd.R_tight rfl (Kd.R_mono (ok' := fun k_ => ((fun k_ => k_ ≠ gb125)) k_ ∧ some k_ ≠ (u7 : Value).ownBlock) (Kd.R_types (Kd.R_apart' (HO124.out) (Kd.S_typed HO_7.out) (by decide)) BK125.out (by decide)) (fun k_ hk => ⟨hk.2, hk.1.2⟩))) (fun _ h_ => h_))); (case aB => exact (by repeat (first | (with_reducible first | exact HB.out | apply below_alloc | apply pw_below_drewN | apply below_drew1 | refine below_set ?_ GE125.out) | exact HB.out))); (case aF => exact (fun k_ hk => Kd.freshB (g := gb125) (o := .cells #[.int .i64 t121, .slice Ao24 t122.length co24] 60 (0, 0)) (by (with_reducible repeat (first | refine blk_drewN ?_ _ | refine blk_drew ?_ | refine blk_alloc ?_ _)); exact BK125.out) k_ hk)); (case aO => exact (by (with_reducible repeat (first | apply Kd.S_alloc | apply Kd.S_drewN | apply Kd.S_drew)); exact Kd.S_mono HO_7.out (fun k_ hk => ⟨hk.2, fun e_ => hk.1 e_⟩))); (case aS => exact (below_size (by repeat (first | (with_reducible first | exact HB.out | apply below_alloc | apply pw_below_drewN | apply below_drew1 | refine below_set ?_ GE125.out) | exact HB.out)))); (case aL => have := LMc19.out; omega); intro v127 w27 ho hb hg hat; rw [← Ny126.out] at ho; have n0_ := Aside0.mk (blk_grown (g := gb125) (o := .cells #[.int .i64 t121, .slice Ao24 t122.length co24] 60 (0, 0)) (by (with_reducible repeat (first | refine blk_drewN ?_ _ | refine blk_drew ?_ | refine blk_alloc ?_ _)); exact BK125.out) hg (Kd.S_away HO_7.out (fun _ hk => hk.2))); have n1_ := Aside0.mk (hb); have n2_ := Aside0.mk (ho); clear BK125; clear HB; clear HO_7; clear HO124; have BK125 := n0_; have HB := n1_; have HO128 := n2_; clear n0_ n1_ n2_; clear ho hb hg hat))
                          repeat (go_quiet (fail); try go_wp2)
                          go_roundg kj6
                          case measure => have := HK1.out; have := HJ6.out; omega
                          case rel => exact ⟨(y126), (wrap64 (x19_1 + 1)), (wrap64 (x19_1 + 1)), (by first | rfl | (simp; done) | (simp [*]; done) | (simp [isEmpty_bne]; done)), (by first | rfl | (simp; done) | (simp [*]; done) | (simp [isEmpty_bne]; done)), H', ⟨by have := HK1.out; have := HJ6.out; omega⟩, ⟨by (with_reducible repeat (first | apply Kd.S_alloc | apply Kd.S_drewN | apply Kd.S_drew)); exact Kd.S_mono HO128.out (fun _ hk => trivial)⟩, ⟨by repeat (first | (with_reducible first | exact HB.out | apply below_alloc | apply pw_below_drewN | apply below_drew1 | refine below_set ?_ GE125.out) | exact HB.out)⟩⟩
                        · rw [if_neg c19] at H
                          exact absurd H (by simp)
                      · rw [if_neg c18] at H
                        have c18b0 : decide (0 < (t122.length : Int)) = false := decide_eq_false c18
                        have c18b1 : decide (0 < t122.length) = false := decide_eq_false (by omega)
                        clear c18
                        have H' := Aside0.mk H
                        clear H
                        have q28 : ((wrap64 (x19_1 + 1)) : Int) ≤ ((l0.length : Int) : Int) := of_decide_eq_true (by first | (with_reducible assumption) | assumption)
                        obtain ⟨i028, hi028, _, hsz28, _⟩ := info_parts info58
                        have hroom28 : l0.length ≤ c0 := HC0.out
                        have hC28 : Kd.C k58 _ A0 l0.length l0 := HR0.out
                        have ql28 : (x8_1 : Int) ≤ ((wrap64 (x19_1 + 1)) : Int) := of_decide_eq_true (by first | (with_reducible assumption) | assumption)
                        have q028 : (0 : Int) ≤ (x8_1 : Int) := of_decide_eq_true (by first | (with_reducible assumption) | assumption)
                        have hcut28 := cut_mid (P := Try.prog) 38 58 .i64 .i64 Try.underlying38 hi028 3 hsz28 A0 l0.length c0 x8_1 (wrap64 (x19_1 + 1)) q028 ql28 q28 hroom28
                        have hr28 := Kd.C_mid (lo := (x8_1 : Int).toNat) (hi := ((wrap64 (x19_1 + 1)) : Int).toNat) (c := c0) hC28 (by omega) (by omega) hroom28
                        obtain ⟨A28, hA28⟩ : ∃ A1, A1 = (if c0 = (x8_1 : Int).toNat then A0 else (A0 : Option Addr).map (·.add ((x8_1 : Int).toNat * 3))) := ⟨_, rfl⟩
                        obtain ⟨c28, hc28⟩ : ∃ c1, c1 = c0 - (x8_1 : Int).toNat := ⟨_, rfl⟩
                        have hy28 : y117.length = ((wrap64 (x19_1 + 1)) : Int).toNat - (x8_1 : Int).toNat := (by rw [Ny117.out, List.length_drop, List.length_take] <;> omega)
                        rw [show ((l0).take ((wrap64 (x19_1 + 1)) : Int).toNat).drop (x8_1 : Int).toNat = y117 from Ny117.out.symm] at hr28
                        replace hr28 : Kd.C k58 _ A28 y117.length y117 := (by rw [hA28]; exact hr28)
                        rw [← hy28, ← hA28, ← hc28] at hcut28
                        have HR120 := Aside0.mk hr28
                        have HC120 := Aside0.mk (show y117.length ≤ c28 from by rw [hy28, hc28]; exact Nat.sub_le_sub_right (Nat.le_trans (by omega) hroom28) _)
                        clear hr28 hC28 hroom28 hi028 hsz28 hc28
                        have KY28 := Aside0.mk hy28
                        have KA28 := Aside0.mk hA28
                        clear hy28 hA28
                        replace q28 := eq_true q28
                        go_wp2_with (first | (go_at_call 47; (with_reducible refine (filewatch_newBatch.calls _ _ y117 a1 t121 t122 _ ?side1 ?side2 A17.out).mono ?_); (case side1 => repeat (first | exact (Kd.C_below HR120.out HB.out) | (with_reducible refine Kd.C_alloc ?_ _) | (with_reducible refine Kd.C_drewN ?_ _) | (with_reducible refine Kd.C_drew ?_))); (case side2 => exact HC120.out); rintro e w29 ⟨v123, rfl, ho0, hb⟩; have n0_ := Aside0.mk (Kd.S_elder' (by (with_reducible repeat (first | apply Kd.S_alloc | apply Kd.S_drewN | apply Kd.S_drew)); exact HO_7.out) (Kd.R_base ho0) hb); have n1_ := Aside0.mk (Kd.R_lower ho0 (below_size (by repeat (first | (with_reducible first | exact HB.out | apply below_alloc | apply pw_below_drewN | apply below_drew1) | exact HB.out)))); have n2_ := Aside0.mk (below_step (by repeat (first | (with_reducible first | exact HB.out | apply below_alloc | apply pw_below_drewN | apply below_drew1) | exact HB.out)) hb); clear HO_7; clear HB; have HO_7 := n0_; have HO124 := n1_; have HB := n2_; clear n0_ n1_ n2_; (try clear hb); (try clear hb2); (try clear hk); (try clear hi); (try clear ho0)) | ((with_reducible refine gate_dst (N := 10) rfl ?_); refine box_event ?hg (N := 10) ?hd (cs := #[.int .i64 0, .slice none 0 0]) (t := 60) ?hr ?_; (case hd => rfl); (case hg => rfl); (case hr => first | (go_simp; done) | (go_simp; rfl)); intro gb125 hg w30 hbox hb; have n0_ := Aside0.mk (Kd.S_below (Kd.S_elderB (by (with_reducible repeat (first | apply Kd.S_alloc | apply Kd.S_drewN | apply Kd.S_drew)); exact HO_7.out) gb125 (Nat.le_of_eq hg.symm)) hb); have n1_ := Aside0.mk (Kd.R_below (by (with_reducible repeat (first | apply Kd.R_alloc | apply Kd.R_drewN | apply Kd.R_drew)); exact HO124.out) hb); have n2_ := Aside0.mk (below_step (by repeat (first | (with_reducible first | exact HB.out | apply below_alloc | apply pw_below_drewN | apply below_drew1) | exact HB.out)) hb); have n3_ := Aside0.mk (hbox); have n4_ := Aside0.mk ((by rw [hg]; exact (below_size (by repeat (first | (with_reducible first | exact HB.out | apply below_alloc | apply pw_below_drewN | apply below_drew1) | exact HB.out))) : w.heap.size ≤ gb125)); have n5_ := Aside0.mk ((by rw [hg]; exact (below_size (by repeat (first | (with_reducible first | exact HB.out | apply below_alloc | apply pw_below_drewN | apply below_drew1) | exact HB.out))) : w.heap.size ≤ gb125)); clear HO_7; clear HO124; clear HB; have HO_7 := n0_; have HO124 := n1_; have HB := n2_; have BK125 := n3_; have GW125 := n4_; have GE125 := n5_; clear n0_ n1_ n2_ n3_ n4_ n5_; clear hb hbox hg; have hcz31_0 : w30.cell? ⟨gb125, 0, none⟩ = some (.int .i64 0) := (blk_cell BK125.out 0).trans rfl; have hcz31_1 : w30.cell? ⟨gb125, 1, none⟩ = some (.slice none 0 0) := (blk_cell BK125.out 1).trans rfl; have hfz31_0 := blk_frozen BK125.out 0; have hfz31_1 := blk_frozen BK125.out 1; obtain ⟨Ao32, co32, eo32⟩ := Kd.R_slice HO124.out; subst eo32))
                        repeat (go_quiet (fail); try go_wp2)
                        go_roundg kj6
                        case measure => have := HK1.out; have := HJ6.out; omega
                        case rel => exact ⟨(x7_1), (wrap64 (x19_1 + 1)), (wrap64 (x19_1 + 1)), (by first | rfl | (simp; done) | (simp [*]; done) | (simp [isEmpty_bne]; done)), (by first | rfl | (simp; done) | (simp [*]; done) | (simp [isEmpty_bne]; done)), H', ⟨by have := HK1.out; have := HJ6.out; omega⟩, ⟨by (with_reducible repeat (first | apply Kd.S_alloc | apply Kd.S_drewN | apply Kd.S_drew)); exact Kd.S_mono (Kd.S_far (p := ⟨gb125, 1, none⟩) (Kd.S_far (p := ⟨gb125, 0, none⟩) (Kd.S_mono HO_7.out (fun k_ hk => (⟨hk, hk.2⟩ : _ ∧ k_ ≠ gb125))) (fun _ hk => hk.2) (.int .i64 t121)) (fun _ hk => hk.2) (.slice Ao32 t122.length co32)) (fun _ hk => trivial)⟩, ⟨by repeat (first | (with_reducible first | exact HB.out | apply below_alloc | apply pw_below_drewN | apply below_drew1 | refine below_set ?_ GE125.out) | exact HB.out)⟩⟩
                    · rw [if_neg c16] at H
                      exact absurd H (by simp)
                  · rw [if_neg c15] at H
                    exact absurd H (by simp)
                · rw [if_neg c14] at H
                  exact absurd H (by simp)
        · rw [if_neg c6] at H
          have c6b0 : decide (x19_1 < (l0.length : Int)) = false := decide_eq_false c6
          clear c6
          simp only [Option.some.injEq, Prod.mk.injEq] at H
          obtain ⟨rfl, rfl⟩ := H
          go_wp2
          repeat (go_quiet (fail); try go_wp2)
          go_ret2
          exact ⟨_, by first | rfl | (simp [errW_none, errW_some] <;> rfl) | (simp [*, errW_none, errW_some] <;> rfl), by (with_reducible repeat (first | apply Kd.S_alloc | apply Kd.S_drewN | apply Kd.S_drew)); exact HO_7.out, by repeat (first | (with_reducible first | exact HB.out | apply below_alloc | apply pw_below_drewN | apply below_drew1) | exact HB.out)⟩
  · rw [if_neg c4] at H
    have c4b0 : (t114 == 0) = false := beq_eq_false_iff_ne.mpr c4
    have c4b1 : (t114 != 0) = true := bne_iff_ne.mpr c4
    simp only [Option.some.injEq, Prod.mk.injEq] at H
    obtain ⟨rfl, rfl⟩ := H
    go_enter Try.func17, Try.ntmps17
    go_wp2_with (first | (go_at_call 46; (with_reducible refine (filewatch_validate.calls k _ _ l0 a1 t114 _ ?side1 ?side2 A3.out).mono ?_); (case side1 => repeat (first | exact HR0.out | (with_reducible refine Kd.C_alloc ?_ _) | (with_reducible refine Kd.C_drewN ?_ _) | (with_reducible refine Kd.C_drew ?_))); (case side2 => exact HC0.out); rintro e w33 ⟨rfl, hb⟩; have n0_ := Aside0.mk (below_step (by repeat (first | (with_reducible first | exact HB.out | apply below_alloc | apply pw_below_drewN | apply below_drew1) | exact HB.out)) hb); clear HB; have HB := n0_; clear n0_; (try clear hb); (try clear hb2); (try clear hk); (try clear hi)))
    repeat (go_quiet (fail); try go_wp2)
    go_ret2
    exact ⟨_, by first | rfl | (simp [errW_none, errW_some] <;> rfl) | (simp [*, errW_none, errW_some] <;> rfl), by first | exact Kd.S_nil _ _ _ _ _ | exact Kd.N_nil _ _ _ _ _ | exact Kd.V_nil _ _ _ _ _ | exact Kd.Q_nil _ _ _ _ _ | exact Kd.R_nil _ _ _ _ _, by repeat (first | (with_reducible first | exact HB.out | apply below_alloc | apply pw_below_drewN | apply below_drew1) | exact HB.out)⟩

/-! ### api_QFileEvent_45: function 45 -/
def api_QFileEvent_45.l0 : Nat → List (S58) → List (S58) → Int → Int → Option (Bool)
  | 0, _, _, _, _ => none
  | k + 1, x1, x12, x13, x14 => if x14 < x13 then (if 0 ≤ x14 then (if x14 < (x12.length : Int) then (if x14 < (x1.length : Int) then (if (!(((rd_T58 x12 x14).f0) == ((rd_T58 x1 x14).f0)) || (!((((rd_T58 x12 x14).f1).toList) == (((rd_T58 x1 x14).f1).toList)) || (!(((rd_T58 x12 x14).f2) == ((rd_T58 x1 x14).f2))))) = true then (some false) else (api_QFileEvent_45.l0 k x1 x12 x13 (wrap64 (x14 + 1)))) else (none)) else (none)) else (none)) else (some true)
def api_QFileEvent_45.f (k : Nat) (l0 : List (S58)) (l1 : List (S58)) : Option (Bool) := if (l0.length : Int) = (l1.length : Int) then (api_QFileEvent_45.l0 k l1 l0 (l0.length : Int) 0) else (some false)
theorem api_QFileEvent_45.mono_l : ∀ k, (∀ y0 y1 y2 y3, LeO (api_QFileEvent_45.l0 k y0 y1 y2 y3) (api_QFileEvent_45.l0 (k + 1) y0 y1 y2 y3))
  | 0 => fun _ _ _ _ r h => by simp [api_QFileEvent_45.l0] at h
  | k + 1 => by
    have ih0 := api_QFileEvent_45.mono_l k
    · intro y0 y1 y2 y3
      unfold api_QFileEvent_45.l0
      repeat' first
      | (with_reducible exact ih0 _ _ _ _)
      | (with_reducible exact LeO.refl _)
      | (with_reducible exact LeO.none _)
      | (with_reducible refine LeO.ite ?_ ?_)
      | (with_reducible refine LeO.bind ?_ (fun _ => ?_))
      | exact ih0 _ _ _ _
      | exact LeO.none _
      | refine LeO.ite ?_ ?_
      | refine LeO.bind ?_ (fun _ => ?_)
theorem api_QFileEvent_45.mono : ∀ a0 a1 k, LeO (api_QFileEvent_45.f k a0 a1) (api_QFileEvent_45.f (k + 1) a0 a1) := by
  intro a0 a1 k
  have ih0 := api_QFileEvent_45.mono_l k
  unfold api_QFileEvent_45.f
  repeat' first
      | (with_reducible exact ih0 _ _ _ _)
      | (with_reducible exact LeO.refl _)
      | (with_reducible exact LeO.none _)
      | (with_reducible refine LeO.ite ?_ ?_)
      | (with_reducible refine LeO.bind ?_ (fun _ => ?_))
      | exact ih0 _ _ _ _
      | exact LeO.none _
      | refine LeO.ite ?_ ?_
      | refine LeO.bind ?_ (fun _ => ?_)
set_option maxHeartbeats 8000000 in
set_option maxRecDepth 100000 in
theorem api_QFileEvent_45.calls (k : Nat) (A0 : Option Addr) (c0 : Nat) (l0 : List (S58)) (A1 : Option Addr) (c1 : Nat) (l1 : List (S58)) (r : Bool) (w : World) (hr0 : Kd.C k58 w A0 l0.length l0) (hc0 : l0.length ≤ c0) (hr1 : Kd.C k58 w A1 l1.length l1) (hc1 : l1.length ≤ c1) (h : api_QFileEvent_45.f k l0 l1 = some r) :
    Calls Try.prog 45 #[.slice A0 l0.length c0, .slice A1 l1.length c1] w fun e w' => e = .returned (.bool r) ∧ Below w.heap.size w w' := by
  have hu58 := Try.underlying58
  have HR0 := Aside0.mk hr0
  have HC0 := Aside0.mk hc0
  clear hr0 hc0
  have HR1 := Aside0.mk hr1
  have HC1 := Aside0.mk hc1
  clear hr1 hc1
  have HB := Aside0.mk (Below.refl w.heap.size w)
  have H : (if (l0.length : Int) = (l1.length : Int) then (api_QFileEvent_45.l0 k l1 l0 (l0.length : Int) 0) else (some false)) = some r := h
  clear h
  by_cases c3 : (l0.length : Int) = (l1.length : Int)
  · rw [if_pos c3] at H
    have c3b0 : ((l0.length : Int) == (l1.length : Int)) = true := beq_iff_eq.mpr c3
    have c3b1 : ((l0.length : Int) != (l1.length : Int)) = false := bne_eq_false_iff_eq.mpr c3
    have c3b2 : (l0.length == l1.length) = true := by first | simpa using c3 | (simp at c3 ⊢; omega)
    clear c3
    have H' := Aside0.mk H
    clear H
    go_enter Try.func45, Try.ntmps45
    go_wp2
    repeat (go_quiet (fail); try go_wp2)
    go_loopg [14] k (fun kq v14 w' => ∃ (x14_1 : Int), v14 = .int .i64 x14_1 ∧ Aside0 (api_QFileEvent_45.l0 kq l1 l0 (l0.length : Int) x14_1 = some r) ∧ Aside0 (kq ≤ k) ∧ Aside0 (Below w.heap.size w w'))
    case atStart => exact ⟨(0), (by first | rfl | (simp; done) | (simp [*]; done) | (simp [isEmpty_bne]; done)), H', ⟨Nat.le_refl _⟩, ⟨by repeat (first | (with_reducible first | exact HB.out | apply below_alloc | apply pw_below_drewN | apply below_drew1) | exact HB.out)⟩⟩
    case round =>
      clear H'
      try clear c1
      try clear p2
      try clear c3
      try clear c3b0
      try clear c3b1
      try clear c3b2
      obtain ⟨x14_1, rfl, HA, HK1, HB⟩ := hrel
      cases gk with
      | zero => exact absurd HA.out (by simp [api_QFileEvent_45.l0])
      | succ k1 =>
        have H := HA.out
        clear HA
        simp only [api_QFileEvent_45.l0] at H
        by_cases c4 : x14_1 < (l0.length : Int)
        · rw [if_pos c4] at H
          have c4b0 : decide (x14_1 < (l0.length : Int)) = true := decide_eq_true c4
          clear c4
          by_cases c5 : 0 ≤ x14_1
          · rw [if_pos c5] at H
            have c5b0 : decide (0 ≤ x14_1) = true := decide_eq_true c5
            clear c5
            by_cases c6 : x14_1 < (l0.length : Int)
            · rw [if_pos c6] at H
              have c6b0 : decide (x14_1 < (l0.length : Int)) = true := decide_eq_true c6
              clear c6
              by_cases c7 : x14_1 < (l1.length : Int)
              · rw [if_pos c7] at H
                have c7b0 : decide (x14_1 < (l1.length : Int)) = true := decide_eq_true c7
                clear c7
                by_cases c8 : (!(((rd_T58 l0 x14_1).f0) == ((rd_T58 l1 x14_1).f0)) || (!((((rd_T58 l0 x14_1).f1).toList) == (((rd_T58 l1 x14_1).f1).toList)) || (!(((rd_T58 l0 x14_1).f2) == ((rd_T58 l1 x14_1).f2))))) = true
                · rw [if_pos c8] at H
                  have c8b0 : (!(((rd_T58 l0 x14_1).f0) == ((rd_T58 l1 x14_1).f0)) || (!((((rd_T58 l0 x14_1).f1).toList) == (((rd_T58 l1 x14_1).f1).toList)) || (!(((rd_T58 l0 x14_1).f2) == ((rd_T58 l1 x14_1).f2))))) = true := c8
                  clear c8
                  obtain rfl := Option.some.inj H
                  have p129 : 0 ≤ (x14_1 : Int) := of_decide_eq_true (by first | (with_reducible assumption) | assumption)
                  have q129 : x14_1 < (l0.length : Int) := of_decide_eq_true (by first | (with_reducible assumption) | assumption)
                  obtain ⟨ad129, e129, hx129_0, hx129_1, hx129_2⟩ := at_T58 HR0.out x14_1 p129 q129
                  cases e129
                  replace hx129_0 := (HB.out.cell (World.block_lt_of_cell? w _ hx129_0)).trans hx129_0
                  replace hx129_1 := (HB.out.cell (World.block_lt_of_cell? w _ hx129_1)).trans hx129_1
                  replace hx129_2 := (HB.out.cell (World.block_lt_of_cell? w _ hx129_2)).trans hx129_2
                  replace p129 := eq_true p129
                  replace q129 := eq_true q129
                  go_wp2_with (first | ((with_reducible refine gate_dst (N := 6) rfl ?_); refine box_event ?hg (N := 6) ?hd (cs := #[.int .i64 0, .string (⟨#[]⟩ : ByteArray), .int .i64 0]) (t := 58) ?hr ?_; (case hd => rfl); (case hg => rfl); (case hr => first | (go_simp; done) | (go_simp; rfl)); intro gb130 hg w9 hbox hb; have n0_ := Aside0.mk (below_step (by repeat (first | (with_reducible first | exact HB.out | apply below_alloc | apply pw_below_drewN | apply below_drew1) | exact HB.out)) hb); have n1_ := Aside0.mk (hbox); have n2_ := Aside0.mk ((by rw [hg]; exact (below_size (by repeat (first | (with_reducible first | exact HB.out | apply below_alloc | apply pw_below_drewN | apply below_drew1) | exact HB.out))) : w.heap.size ≤ gb130)); have n3_ := Aside0.mk ((by rw [hg]; exact (below_size (by repeat (first | (with_reducible first | exact HB.out | apply below_alloc | apply pw_below_drewN | apply below_drew1) | exact HB.out))) : w.heap.size ≤ gb130)); clear HB; have HB := n0_; have BK130 := n1_; have GW130 := n2_; have GE130 := n3_; clear n0_ n1_ n2_ n3_; clear hb hbox hg; have hcz10_0 : w9.cell? ⟨gb130, 0, none⟩ = some (.int .i64 0) := (blk_cell BK130.out 0).trans rfl; have hcz10_1 : w9.cell? ⟨gb130, 1, none⟩ = some (.string (⟨#[]⟩ : ByteArray)) := (blk_cell BK130.out 1).trans rfl; have hcz10_2 : w9.cell? ⟨gb130, 2, none⟩ = some (.int .i64 0) := (blk_cell BK130.out 2).trans rfl; have hfz10_0 := blk_frozen BK130.out 0; have hfz10_1 := blk_frozen BK130.out 1; have hfz10_2 := blk_frozen BK130.out 2; have p131 : 0 ≤ (x14_1 : Int) := of_decide_eq_true (by first | (with_reducible assumption) | assumption); have q131 : x14_1 < (l1.length : Int) := of_decide_eq_true (by first | (with_reducible assumption) | assumption); obtain ⟨ad131, e131, hx131_0, hx131_1, hx131_2⟩ := at_T58 HR1.out x14_1 p131 q131; cases e131; have hn131_0 : ad131.block ≠ gb130 := Nat.ne_of_lt (Nat.lt_of_lt_of_le (by have := World.block_lt_of_cell? _ _ hx131_0; first | rwa [add_block] at this | exact this) GW130.out); have hn131_1 : ad131.block ≠ gb130 := Nat.ne_of_lt (Nat.lt_of_lt_of_le (by have := World.block_lt_of_cell? _ _ hx131_0; first | rwa [add_block] at this | exact this) GW130.out); have hn131_2 : ad131.block ≠ gb130 := Nat.ne_of_lt (Nat.lt_of_lt_of_le (by have := World.block_lt_of_cell? _ _ hx131_0; first | rwa [add_block] at this | exact this) GW130.out); replace hx131_0 := (HB.out.cell (World.block_lt_of_cell? w _ hx131_0)).trans hx131_0; replace hx131_1 := (HB.out.cell (World.block_lt_of_cell? w _ hx131_1)).trans hx131_1; replace hx131_2 := (HB.out.cell (World.block_lt_of_cell? w _ hx131_2)).trans hx131_2; replace hx131_0 := (cell_far (p := ⟨gb130, 0, none⟩) (by first | (rw [add_block]; exact hn131_0) | (show (Addr.add _ _).block ≠ _; rw [add_block]; exact hn131_0) | exact hn131_0) (.int .i64 ((rd_T58 l0 x14_1).f0))).trans hx131_0; replace hx131_1 := (cell_far (p := ⟨gb130, 0, none⟩) (by first | (rw [add_block]; exact hn131_0) | (show (Addr.add _ _).block ≠ _; rw [add_block]; exact hn131_0) | exact hn131_0) (.int .i64 ((rd_T58 l0 x14_1).f0))).trans hx131_1; replace hx131_2 := (cell_far (p := ⟨gb130, 0, none⟩) (by first | (rw [add_block]; exact hn131_0) | (show (Addr.add _ _).block ≠ _; rw [add_block]; exact hn131_0) | exact hn131_0) (.int .i64 ((rd_T58 l0 x14_1).f0))).trans hx131_2; replace hx131_0 := (cell_far (p := ⟨gb130, 1, none⟩) (by first | (rw [add_block]; exact hn131_1) | (show (Addr.add _ _).block ≠ _; rw [add_block]; exact hn131_1) | exact hn131_1) (.string ((rd_T58 l0 x14_1).f1))).trans hx131_0; replace hx131_1 := (cell_far (p := ⟨gb130, 1, none⟩) (by first | (rw [add_block]; exact hn131_1) | (show (Addr.add _ _).block ≠ _; rw [add_block]; exact hn131_1) | exact hn131_1) (.string ((rd_T58 l0 x14_1).f1))).trans hx131_1; replace hx131_2 := (cell_far (p := ⟨gb130, 1, none⟩) (by first | (rw [add_block]; exact hn131_1) | (show (Addr.add _ _).block ≠ _; rw [add_block]; exact hn131_1) | exact hn131_1) (.string ((rd_T58 l0 x14_1).f1))).trans hx131_2; replace hx131_0 := (cell_far (p := ⟨gb130, 2, none⟩) (by first | (rw [add_block]; exact hn131_2) | (show (Addr.add _ _).block ≠ _; rw [add_block]; exact hn131_2) | exact hn131_2) (.int .i64 ((rd_T58 l0 x14_1).f2))).trans hx131_0; replace hx131_1 := (cell_far (p := ⟨gb130, 2, none⟩) (by first | (rw [add_block]; exact hn131_2) | (show (Addr.add _ _).block ≠ _; rw [add_block]; exact hn131_2) | exact hn131_2) (.int .i64 ((rd_T58 l0 x14_1).f2))).trans hx131_1; replace hx131_2 := (cell_far (p := ⟨gb130, 2, none⟩) (by first | (rw [add_block]; exact hn131_2) | (show (Addr.add _ _).block ≠ _; rw [add_block]; exact hn131_2) | exact hn131_2) (.int .i64 ((rd_T58 l0 x14_1).f2))).trans hx131_2; (try have hy131_0 := fun (n_ : Nat) => (show (((((w9.drewN n_).setCell ⟨gb130, 0, none⟩ (.int .i64 ((rd_T58 l0 x14_1).f0))).setCell ⟨gb130, 1, none⟩ (.string ((rd_T58 l0 x14_1).f1))).setCell ⟨gb130, 2, none⟩ (.int .i64 ((rd_T58 l0 x14_1).f2)))).cell? _ = some _ from hx131_0)); (try have hy131_1 := fun (n_ : Nat) => (show (((((w9.drewN n_).setCell ⟨gb130, 0, none⟩ (.int .i64 ((rd_T58 l0 x14_1).f0))).setCell ⟨gb130, 1, none⟩ (.string ((rd_T58 l0 x14_1).f1))).setCell ⟨gb130, 2, none⟩ (.int .i64 ((rd_T58 l0 x14_1).f2)))).cell? _ = some _ from hx131_1)); (try have hy131_2 := fun (n_ : Nat) => (show (((((w9.drewN n_).setCell ⟨gb130, 0, none⟩ (.int .i64 ((rd_T58 l0 x14_1).f0))).setCell ⟨gb130, 1, none⟩ (.string ((rd_T58 l0 x14_1).f1))).setCell ⟨gb130, 2, none⟩ (.int .i64 ((rd_T58 l0 x14_1).f2)))).cell? _ = some _ from hx131_2)); clear hn131_0; clear hn131_1; clear hn131_2; replace p131 := eq_true p131; replace q131 := eq_true q131))
                  repeat (go_quiet (fail); try go_wp2)
                  go_ret
                  exact ⟨by first | rfl | (simp [errW_none, errW_some] <;> rfl) | (simp [*, errW_none, errW_some] <;> rfl), by repeat (first | (with_reducible first | exact HB.out | apply below_alloc | apply pw_below_drewN | apply below_drew1 | refine below_set ?_ GE130.out) | exact HB.out)⟩
                · rw [if_neg c8] at H
                  have c8b0 : (!(((rd_T58 l0 x14_1).f0) == ((rd_T58 l1 x14_1).f0)) || (!((((rd_T58 l0 x14_1).f1).toList) == (((rd_T58 l1 x14_1).f1).toList)) || (!(((rd_T58 l0 x14_1).f2) == ((rd_T58 l1 x14_1).f2))))) = false := by simpa using c8
                  clear c8
                  have H' := Aside0.mk H
                  clear H
                  have p129 : 0 ≤ (x14_1 : Int) := of_decide_eq_true (by first | (with_reducible assumption) | assumption)
                  have q129 : x14_1 < (l0.length : Int) := of_decide_eq_true (by first | (with_reducible assumption) | assumption)
                  obtain ⟨ad129, e129, hx129_0, hx129_1, hx129_2⟩ := at_T58 HR0.out x14_1 p129 q129
                  cases e129
                  replace hx129_0 := (HB.out.cell (World.block_lt_of_cell? w _ hx129_0)).trans hx129_0
                  replace hx129_1 := (HB.out.cell (World.block_lt_of_cell? w _ hx129_1)).trans hx129_1
                  replace hx129_2 := (HB.out.cell (World.block_lt_of_cell? w _ hx129_2)).trans hx129_2
                  replace p129 := eq_true p129
                  replace q129 := eq_true q129
                  go_wp2_with (first | ((with_reducible refine gate_dst (N := 6) rfl ?_); refine box_event ?hg (N := 6) ?hd (cs := #[.int .i64 0, .string (⟨#[]⟩ : ByteArray), .int .i64 0]) (t := 58) ?hr ?_; (case hd => rfl); (case hg => rfl); (case hr => first | (go_simp; done) | (go_simp; rfl)); intro gb130 hg w11 hbox hb; have n0_ := Aside0.mk (below_step (by repeat (first | (with_reducible first | exact HB.out | apply below_alloc | apply pw_below_drewN | apply below_drew1) | exact HB.out)) hb); have n1_ := Aside0.mk (hbox); have n2_ := Aside0.mk ((by rw [hg]; exact (below_size (by repeat (first | (with_reducible first | exact HB.out | apply below_alloc | apply pw_below_drewN | apply below_drew1) | exact HB.out))) : w.heap.size ≤ gb130)); have n3_ := Aside0.mk ((by rw [hg]; exact (below_size (by repeat (first | (with_reducible first | exact HB.out | apply below_alloc | apply pw_below_drewN | apply below_drew1) | exact HB.out))) : w.heap.size ≤ gb130)); clear HB; have HB := n0_; have BK130 := n1_; have GW130 := n2_; have GE130 := n3_; clear n0_ n1_ n2_ n3_; clear hb hbox hg; have hcz12_0 : w11.cell? ⟨gb130, 0, none⟩ = some (.int .i64 0) := (blk_cell BK130.out 0).trans rfl; have hcz12_1 : w11.cell? ⟨gb130, 1, none⟩ = some (.string (⟨#[]⟩ : ByteArray)) := (blk_cell BK130.out 1).trans rfl; have hcz12_2 : w11.cell? ⟨gb130, 2, none⟩ = some (.int .i64 0) := (blk_cell BK130.out 2).trans rfl; have hfz12_0 := blk_frozen BK130.out 0; have hfz12_1 := blk_frozen BK130.out 1; have hfz12_2 := blk_frozen BK130.out 2; have p131 : 0 ≤ (x14_1 : Int) := of_decide_eq_true (by first | (with_reducible assumption) | assumption); have q131 : x14_1 < (l1.length : Int) := of_decide_eq_true (by first | (with_reducible assumption) | assumption); obtain ⟨ad131, e131, hx131_0, hx131_1, hx131_2⟩ := at_T58 HR1.out x14_1 p131 q131; cases e131; have hn131_0 : ad131.block ≠ gb130 := Nat.ne_of_lt (Nat.lt_of_lt_of_le (by have := World.block_lt_of_cell? _ _ hx131_0; first | rwa [add_block] at this | exact this) GW130.out); have hn131_1 : ad131.block ≠ gb130 := Nat.ne_of_lt (Nat.lt_of_lt_of_le (by have := World.block_lt_of_cell? _ _ hx131_0; first | rwa [add_block] at this | exact this) GW130.out); have hn131_2 : ad131.block ≠ gb130 := Nat.ne_of_lt (Nat.lt_of_lt_of_le (by have := World.block_lt_of_cell? _ _ hx131_0; first | rwa [add_block] at this | exact this) GW130.out); replace hx131_0 := (HB.out.cell (World.block_lt_of_cell? w _ hx131_0)).trans hx131_0; replace hx131_1 := (HB.out.cell (World.block_lt_of_cell? w _ hx131_1)).trans hx131_1; replace hx131_2 := (HB.out.cell (World.block_lt_of_cell? w _ hx131_2)).trans hx131_2; replace hx131_0 := (cell_far (p := ⟨gb130, 0, none⟩) (by first | (rw [add_block]; exact hn131_0) | (show (Addr.add _ _).block ≠ _; rw [add_block]; exact hn131_0) | exact hn131_0) (.int .i64 ((rd_T58 l0 x14_1).f0))).trans hx131_0; replace hx131_1 := (cell_far (p := ⟨gb130, 0, none⟩) (by first | (rw [add_block]; exact hn131_0) | (show (Addr.add _ _).block ≠ _; rw [add_block]; exact hn131_0) | exact hn131_0) (.int .i64 ((rd_T58 l0 x14_1).f0))).trans hx131_1; replace hx131_2 := (cell_far (p := ⟨gb130, 0, none⟩) (by first | (rw [add_block]; exact hn131_0) | (show (Addr.add _ _).block ≠ _; rw [add_block]; exact hn131_0) | exact hn131_0) (.int .i64 ((rd_T58 l0 x14_1).f0))).trans hx131_2; replace hx131_0 := (cell_far (p := ⟨gb130, 1, none⟩) (by first | (rw [add_block]; exact hn131_1) | (show (Addr.add _ _).block ≠ _; rw [add_block]; exact hn131_1) | exact hn131_1) (.string ((rd_T58 l0 x14_1).f1))).trans hx131_0; replace hx131_1 := (cell_far (p := ⟨gb130, 1, none⟩) (by first | (rw [add_block]; exact hn131_1) | (show (Addr.add _ _).block ≠ _; rw [add_block]; exact hn131_1) | exact hn131_1) (.string ((rd_T58 l0 x14_1).f1))).trans hx131_1; replace hx131_2 := (cell_far (p := ⟨gb130, 1, none⟩) (by first | (rw [add_block]; exact hn131_1) | (show (Addr.add _ _).block ≠ _; rw [add_block]; exact hn131_1) | exact hn131_1) (.string ((rd_T58 l0 x14_1).f1))).trans hx131_2; replace hx131_0 := (cell_far (p := ⟨gb130, 2, none⟩) (by first | (rw [add_block]; exact hn131_2) | (show (Addr.add _ _).block ≠ _; rw [add_block]; exact hn131_2) | exact hn131_2) (.int .i64 ((rd_T58 l0 x14_1).f2))).trans hx131_0; replace hx131_1 := (cell_far (p := ⟨gb130, 2, none⟩) (by first | (rw [add_block]; exact hn131_2) | (show (Addr.add _ _).block ≠ _; rw [add_block]; exact hn131_2) | exact hn131_2) (.int .i64 ((rd_T58 l0 x14_1).f2))).trans hx131_1; replace hx131_2 := (cell_far (p := ⟨gb130, 2, none⟩) (by first | (rw [add_block]; exact hn131_2) | (show (Addr.add _ _).block ≠ _; rw [add_block]; exact hn131_2) | exact hn131_2) (.int .i64 ((rd_T58 l0 x14_1).f2))).trans hx131_2; (try have hy131_0 := fun (n_ : Nat) => (show (((((w11.drewN n_).setCell ⟨gb130, 0, none⟩ (.int .i64 ((rd_T58 l0 x14_1).f0))).setCell ⟨gb130, 1, none⟩ (.string ((rd_T58 l0 x14_1).f1))).setCell ⟨gb130, 2, none⟩ (.int .i64 ((rd_T58 l0 x14_1).f2)))).cell? _ = some _ from hx131_0)); (try have hy131_1 := fun (n_ : Nat) => (show (((((w11.drewN n_).setCell ⟨gb130, 0, none⟩ (.int .i64 ((rd_T58 l0 x14_1).f0))).setCell ⟨gb130, 1, none⟩ (.string ((rd_T58 l0 x14_1).f1))).setCell ⟨gb130, 2, none⟩ (.int .i64 ((rd_T58 l0 x14_1).f2)))).cell? _ = some _ from hx131_1)); (try have hy131_2 := fun (n_ : Nat) => (show (((((w11.drewN n_).setCell ⟨gb130, 0, none⟩ (.int .i64 ((rd_T58 l0 x14_1).f0))).setCell ⟨gb130, 1, none⟩ (.string ((rd_T58 l0 x14_1).f1))).setCell ⟨gb130, 2, none⟩ (.int .i64 ((rd_T58 l0 x14_1).f2)))).cell? _ = some _ from hx131_2)); clear hn131_0; clear hn131_1; clear hn131_2; replace p131 := eq_true p131; replace q131 := eq_true q131))
                  repeat (go_quiet (fail); try go_wp2)
                  go_roundg k1
                  case measure => have := HK1.out; omega
                  case rel => exact ⟨(wrap64 (x14_1 + 1)), (by first | rfl | (simp; done) | (simp [*]; done) | (simp [isEmpty_bne]; done)), H', ⟨by have := HK1.out; omega⟩, ⟨by repeat (first | (with_reducible first | exact HB.out | apply below_alloc | apply pw_below_drewN | apply below_drew1 | refine below_set ?_ GE130.out) | exact HB.out)⟩⟩
              · rw [if_neg c7] at H
                exact absurd H (by simp)
            · rw [if_neg c6] at H
              exact absurd H (by simp)
          · rw [if_neg c5] at H
            exact absurd H (by simp)
        · rw [if_neg c4] at H
          have c4b0 : decide (x14_1 < (l0.length : Int)) = false := decide_eq_false c4
          clear c4
          obtain rfl := Option.some.inj H
          go_wp2
          repeat (go_quiet (fail); try go_wp2)
          go_ret
          exact ⟨by first | rfl | (simp [errW_none, errW_some] <;> rfl) | (simp [*, errW_none, errW_some] <;> rfl), by repeat (first | (with_reducible first | exact HB.out | apply below_alloc | apply pw_below_drewN | apply below_drew1) | exact HB.out)⟩
  · rw [if_neg c3] at H
    have c3b0 : ((l0.length : Int) == (l1.length : Int)) = false := beq_eq_false_iff_ne.mpr c3
    have c3b1 : ((l0.length : Int) != (l1.length : Int)) = true := bne_iff_ne.mpr c3
    have c3b2 : (l0.length == l1.length) = false := by first | simpa using c3 | (simp at c3 ⊢; omega)
    obtain rfl := Option.some.inj H
    go_enter Try.func45, Try.ntmps45
    go_wp2
    repeat (go_quiet (fail); try go_wp2)
    go_ret
    exact ⟨by first | rfl | (simp [errW_none, errW_some] <;> rfl) | (simp [*, errW_none, errW_some] <;> rfl), by repeat (first | (with_reducible first | exact HB.out | apply below_alloc | apply pw_below_drewN | apply below_drew1) | exact HB.out)⟩

end Go.Proofs.Ytcikmpcacakfbaa.QFilewatchBatches
