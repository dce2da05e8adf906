/-
  InputsScript: the law's walk.
-/
import Derived.Test.YtogpjenmfgpfiaaHandIn7
import Derived.Outline
import Derived.Deep.DeepCutAuto
import Derived.Deep.QuietTactic
import Derived.BigQuiet
namespace Go.Proofs.Ytogpjenmfgpfiaa.QInputsScript
open Go.RowKit Go.Proofs.YtogpjenmfgpfiaaW.PrintWords Go.Proofs.YtogpjenmfgpfiaaW.PrintLast Go.Proofs.YtogpjenmfgpfiaaW.PrintMore Go.Proofs.Ytogpjenmfgpfiaa.Hand Go.Proofs.Ytogpjenmfgpfiaa.Aid
set_option linter.unusedVariables false
set_option linter.unusedSimpArgs false
theorem key_eq (p x : S34) (w : World) : (Op.equalIn 10000 34 (.agg #[.int .i64 p.f0, .int .i64 p.f1, .int .i64 p.f2]) (.agg #[.int .i64 x.f0, .int .i64 x.f1, .int .i64 x.f2])).run Try.prog w = .ok (decide (p = x)) w := by
  show (Op.equalIn (9998 + 2) 34 _ _).run Try.prog w = _
  rw [eqA34]
  congr 1
  rw [Bool.eq_iff_iff]
  obtain ⟨a, b, c⟩ := p
  obtain ⟨a', b', c'⟩ := x
  simp
theorem key_eql (p x : S34) (w : World) : (binOp .eql 34 (.agg #[.int .i64 p.f0, .int .i64 p.f1, .int .i64 p.f2]) (.agg #[.int .i64 x.f0, .int .i64 x.f1, .int .i64 x.f2])).run Try.prog w = .ok (.bool (decide (p = x))) w := by
  rw [run_eql_struct, key_eq]
  rfl
theorem min4 (a b c : Nat) (ats : Array TypeId) (ty : TypeId) : Builtin.min_ ats ty #[.int .i64 (a : Int), .int .i64 (b : Int), .int .i64 (c : Int), .int .i64 30] = pure (.int .i64 ((min (min (min a b) c) 30 : Nat) : Int)) := by
  rw [min_four]
  simp only [min2_int, pure_bind]
  congr 2
  repeat' split
  all_goals omega
/-- What the rounds keep. -/
def LawI (w : World) (sb mb lb i : Nat) (st : St) (kn : List Kn) (V : Option Addr) (cv : Nat) (W : World) : Prop :=
  LI w sb mb lb st st.l0 st.l1 st.l2 kn V cv W ∧ Rel st kn ∧ kn.length ≤ i ∧ 0 ≤ st.rev ∧ st.rev ≤ i
set_option maxRecDepth 100000 in
set_option maxHeartbeats 400000000 in
theorem law_calls (A0 : Option Addr) (c0 : Nat) (l0 : List S34) (A1 : Option Addr) (c1 : Nat) (l1 : List S36) (A2 : Option Addr) (c2 : Nat) (l2 : List Int) (a3 : Int) (w : World) (hr0 : Kd.C k34 w A0 l0.length l0) (hr1 : Kd.C k36 w A1 l1.length l1) (hr2 : Kd.C (Kd.int .i64) w A2 l2.length l2) (hlim : ∀ v ∈ l1, v.f0.length < 17592186044416) :
    Calls Try.prog 3 #[.slice A0 l0.length c0, .slice A1 l1.length c1, .slice A2 l2.length c2, .int .i64 a3] w fun e w' => e = .returned (.bool true) ∧ Below w.heap.size w w' := by
  have HR0 := Aside0.mk hr0
  have HR1 := Aside0.mk hr1
  have HR2 := Aside0.mk hr2
  have HLIM := Aside0.mk hlim
  clear hr0 hr1 hr2 hlim
  have hmin := min4 l0.length l1.length l2.length
  obtain ⟨n, hn⟩ : ∃ n, min (min (min l0.length l1.length) l2.length) 30 = n := ⟨_, rfl⟩
  rw [hn] at hmin
  have HN := Aside0.mk (show n ≤ l0.length ∧ n ≤ l1.length ∧ n ≤ l2.length ∧ n ≤ 30 by omega)
  clear hn
  go_enter Try.func3, Try.ntmps3
  go_upto_region 4 with (first | (go_at_call 9; refine (example_calls _).mono ?_; rintro e w1 ⟨rfl, hb1⟩; have HB1 := Aside0.mk hb1; clear hb1) | (go_at_call 10; refine (new_calls _).mono ?_; rintro e w2 ⟨sb, mb, rfl, hI2, hb2, hs2, hm2⟩; have HI2 := Aside0.mk hI2; have HB2 := Aside0.mk (HB1.out.trans (hb2.mono HB1.out.size)); have HS2 := Aside0.mk (Nat.le_trans HB1.out.size hs2); have HM2 := Aside0.mk (Nat.le_trans HB1.out.size hm2); clear hI2 hb2 hs2 hm2))
  go_upto_region 9 with (fail)
  obtain ⟨W3, hW3⟩ : ∃ W3, w2.alloc (.cells #[.int .i64 0, .int .i64 0, .int .i64 0] 29) = W3 := ⟨_, rfl⟩
  have hb3 : Below w2.heap.size w2 W3 := by rw [← hW3]; exact below_alloc (Below.refl _ _) _
  have hl3 : W3.heap[w2.heap.size]? = some (.cells #[.int .i64 0, .int .i64 0, .int .i64 0] 29 (0, 0)) := by rw [← hW3]; exact hb_new _ _
  rw [hW3]
  clear hW3
  have hbw := HB2.out.trans (hb3.mono HB2.out.size)
  have HI3 := Aside0.mk (show LawI w sb mb w2.heap.size 0 ⟨0, 0, 0, 0, []⟩ [] none 0 W3 from
    ⟨⟨HI2.out.below hb3, hl3, Kd.R_nil _ _ _ _ _, (fun p hp => by cases hp), hbw, HS2.out, HM2.out, HB2.out.size⟩, ⟨List.nodup_nil, fun x => rfl⟩, Nat.le_refl _, by decide, by decide⟩)
  clear hb3 hl3 hbw hmin
  go_wp2
  go_loopg [11, 12, 44] n (fun kq v11 v12 v44 W => ∃ (i : Nat) (st : St) (kn : List Kn) (V : Option Addr) (cv : Nat), v11 = .slice V kn.length cv ∧ v12 = .int .i64 st.rev ∧ v44 = .int .i64 (i : Int) ∧ kq + i = n ∧ Aside0 (LawI w sb mb w2.heap.size i st kn V cv W))
  case atStart => exact ⟨0, ⟨0, 0, 0, 0, []⟩, [], none, 0, rfl, rfl, rfl, by omega, HI3⟩
  case round =>
    obtain ⟨i, st, kn, V, cv, rfl, rfl, rfl, hi, hR⟩ := hrel
    cases gk with
    | zero =>
      as_aux_lemma =>
        obtain rfl : i = n := by omega
        have b0 : decide (i < i) = false := by simp
        have hu34 := Try.underlying34
        have hu36 := Try.underlying36
        have hu38 := Try.underlying38
        have hu40 := Try.underlying40
        clear hi
        go_upto_block 6 with (fail)
        go_cut [] (fun wx => Aside0 (Below wr.heap.size wr wx))
        case first =>
          as_aux_lemma =>
            go_wp2
            go_loopg [196] kn.length (fun kq v196 W => ∃ j : Nat, v196 = .int .i64 (j : Int) ∧ kq + j = kn.length ∧ Aside0 (Below wr.heap.size wr W))
            case atStart => exact ⟨0, rfl, by omega, ⟨Below.refl _ _⟩⟩
            case round =>
              obtain ⟨j, rfl, hj, hb5⟩ := hrel
              cases gk with
              | zero =>
                obtain rfl : j = kn.length := by omega
                have b1 : decide (kn.length < kn.length) = false := by simp
                clear hj
                go_wp2
                go_meet
                case rel => exact hb5
              | succ k2 =>
                have hjl : j < kn.length := by omega
                obtain ⟨p, hp⟩ : ∃ p, kn[j]? = some p := ⟨_, List.getElem?_eq_getElem hjl⟩
                have hx5 := hR.out.1.below hb5.out
                obtain ⟨adk, hV, hg, hcc, hff⟩ := hx5.elem j p hp
                have c0 : wr.cell? (adk.add (j * 7)) = some (.int .i64 p.k.f0) := hcc 0 _ rfl
                have c1 : wr.cell? ⟨(adk.add (j * 7)).block, (adk.add (j * 7)).off + 1, none⟩ = some (.int .i64 p.k.f1) := by rw [← add_field _ _ 1 (by omega)]; exact hcc 1 _ rfl
                have c2 : wr.cell? ⟨(adk.add (j * 7)).block, (adk.add (j * 7)).off + 2, none⟩ = some (.int .i64 p.k.f2) := by rw [← add_field _ _ 2 (by omega)]; exact hcc 2 _ rfl
                have c3 : wr.cell? ⟨(adk.add (j * 7)).block, (adk.add (j * 7)).off + 3, none⟩ = some (.slice p.A p.v.nums.length p.c) := by rw [← add_field _ _ 3 (by omega)]; exact hcc 3 _ rfl
                have c4 : wr.cell? ⟨(adk.add (j * 7)).block, (adk.add (j * 7)).off + 4, none⟩ = some (.string p.v.text) := by rw [← add_field _ _ 4 (by omega)]; exact hcc 4 _ rfl
                have c5 : wr.cell? ⟨(adk.add (j * 7)).block, (adk.add (j * 7)).off + 5, none⟩ = some (.int .i64 p.v.chg) := by rw [← add_field _ _ 5 (by omega)]; exact hcc 5 _ rfl
                have c6 : wr.cell? ⟨(adk.add (j * 7)).block, (adk.add (j * 7)).off + 6, none⟩ = some (.int .i64 p.v.dur) := by rw [← add_field _ _ 6 (by omega)]; exact hcc 6 _ rfl
                have hgp : getP st.m p.k = p.v := by rw [hR.out.2.1.2 p.k]; exact getP_at hR.out.2.1.1 hp
                have HGP := Aside0.mk hgp
                have HPV := Aside0.mk (hR.out.1.kv p (List.mem_of_getElem? hp))
                have HX5 := Aside0.mk hx5
                subst hV
                have b1 : decide (j < kn.length) = true := decide_eq_true hjl
                have r0 := eq_true (show (0 : Int) ≤ (j : Int) by omega)
                have r1 := eq_true (show (j : Int) < (kn.length : Int) by omega)
                have r2 := eq_true hjl
                have HJ := Aside0.mk hj
                have hw2 : wrap64 ((j : Int) + 1) = ((j + 1 : Nat) : Int) := by have := hR.out.2.2.1; have := HN.out; unfold wrap64; omega
                have HW2 := Aside0.mk hw2
                clear hw2 hj hp hx5 hcc hff hg hjl hgp
                go_upto_region 46 with (fail)
                obtain ⟨W6, hW6⟩ : ∃ W6, wr.alloc (.cells #[.int .i64 p.k.f0, .int .i64 p.k.f1, .int .i64 p.k.f2, .slice p.A p.v.nums.length p.c, .string p.v.text, .int .i64 p.v.chg, .int .i64 p.v.dur] 40) = W6 := ⟨_, rfl⟩
                have hb6 : Below wr.heap.size wr W6 := by rw [← hW6]; exact below_alloc (Below.refl _ _) _
                have ho6 : W6.heap[wr.heap.size]? = some (.cells #[.int .i64 p.k.f0, .int .i64 p.k.f1, .int .i64 p.k.f2, .slice p.A p.v.nums.length p.c, .string p.v.text, .int .i64 p.v.chg, .int .i64 p.v.dur] 40 (0, 0)) := by rw [← hW6]; exact hb_new _ _
                obtain ⟨ob, hob⟩ : ∃ ob, wr.heap.size = ob := ⟨_, rfl⟩
                rw [hW6]
                rw [hob] at ho6 ⊢
                clear hW6 hob
                have HX6 := Aside0.mk (HX5.out.below hb6)
                have HB6 := Aside0.mk (hb5.out.trans (hb6.mono hb5.out.size))
                have HOX := Aside0.mk (show ∀ X, Below W6.heap.size W6 X → (X.cell? ⟨ob, 3, none⟩ = some (.slice p.A p.v.nums.length p.c) ∧ X.cell? ⟨ob, 4, none⟩ = some (.string p.v.text) ∧ X.cell? ⟨ob, 5, none⟩ = some (.int .i64 p.v.chg) ∧ X.cell? ⟨ob, 6, none⟩ = some (.int .i64 p.v.dur)) from fun X hX => by
                  have hk := (hX.block _ (lt_of_blk ho6)).trans ho6
                  exact ⟨(cells_of_blk hk 3).trans rfl, (cells_of_blk hk 4).trans rfl, (cells_of_blk hk 5).trans rfl, (cells_of_blk hk 6).trans rfl⟩)
                have o0 : W6.cell? ⟨ob, 0, none⟩ = some (.int .i64 p.k.f0) := (cells_of_blk ho6 0).trans rfl
                have o1 : W6.cell? ⟨ob, 1, none⟩ = some (.int .i64 p.k.f1) := (cells_of_blk ho6 1).trans rfl
                have o2 : W6.cell? ⟨ob, 2, none⟩ = some (.int .i64 p.k.f2) := (cells_of_blk ho6 2).trans rfl
                have hve : valEq p.v.nums p.v.text p.v.nums p.v.text = true := by simp [valEq]
                have HVE := Aside0.mk hve
                clear hb6 ho6 hve c0 c1 c2 c3 c4 c5 c6
                go_upto_region 47 with (go_at_call 14; refine (get_calls HX6.out.si p.k).mono ?_; rintro e w7 ⟨Ag, cg, he, hcg, hCg, hb7⟩; rw [HGP.out] at he hcg hCg; subst he; have HCG := Aside0.mk hcg; have HCV := Aside0.mk hCg; have HB7 := Aside0.mk hb7; clear hcg hCg hb7)
                obtain ⟨W8, hW8⟩ : ∃ W8, w7.alloc (.cells #[.slice Ag p.v.nums.length cg, .string p.v.text] 36) = W8 := ⟨_, rfl⟩
                have ha7 : Below w7.heap.size w7 W8 := by rw [← hW8]; exact below_alloc (Below.refl _ _) _
                have hr8 : W8.heap[w7.heap.size]? = some (.cells #[.slice Ag p.v.nums.length cg, .string p.v.text] 36 (0, 0)) := by rw [← hW8]; exact hb_new _ _
                rw [hW8]
                clear hW8 o0 o1 o2
                have HA7 := Aside0.mk ha7
                have HBW7 := Aside0.mk (HX6.out.bw.trans ((HB7.out.trans (ha7.mono HB7.out.size)).mono HX6.out.bw.size))
                obtain ⟨g3, g4, g5, g6⟩ := HOX.out W8 (HB7.out.trans (ha7.mono HB7.out.size))
                have e0 : W8.cell? ⟨w7.heap.size, 0, none⟩ = some (.slice Ag p.v.nums.length cg) := (cells_of_blk hr8 0).trans rfl
                have e1 : W8.cell? ⟨w7.heap.size, 1, none⟩ = some (.string p.v.text) := (cells_of_blk hr8 1).trans rfl
                clear ha7 hr8
                go_wp2_with (go_at_call 12; refine (eqv_calls Ag cg p.v.nums p.v.text p.A p.c p.v.nums p.v.text _ (Kd.C_below HCV.out HA7.out) HCG.out (Kd.C_below HPV.out.2 HBW7.out) HPV.out.1).mono ?_; rintro e w9 ⟨rfl, hb9⟩; rw [HVE.out]; have hb10 := (HB7.out.trans (HA7.out.mono HB7.out.size)).trans (hb9.mono (Nat.le_trans HB7.out.size HA7.out.size)); obtain ⟨y3, y4, y5, y6⟩ := HOX.out w9 hb10; have HB10 := Aside0.mk hb10; clear hb9 hb10)
                go_roundg k2
                case measure => omega
                case rel => exact ⟨j + 1, by first | rfl | rw [HW2.out], by have := HJ.out; omega, ⟨HB6.out.trans (HB10.out.mono HB6.out.size)⟩⟩
        case rest =>
          have HL8 := Aside0.mk (hR.out.1.below hcut.out)
          clear hcut
          obtain ⟨v, hv⟩ : ∃ v, lastP st a3 = v := ⟨_, rfl⟩
          have k0 := (cells_of_blk HL8.out.lx 0).trans (rfl : _ = some (Value.int .i64 st.l0))
          have k1 := (cells_of_blk HL8.out.lx 1).trans (rfl : _ = some (Value.int .i64 st.l1))
          have k2 := (cells_of_blk HL8.out.lx 2).trans (rfl : _ = some (Value.int .i64 st.l2))
          rcases (show a3 < 0 ∨ a3 = 0 ∨ a3 = 1 ∨ a3 = 2 ∨ 2 < a3 by omega) with h | rfl | rfl | rfl | h
          obtain rfl : v = 0 := by rw [← hv]; unfold lastP; rw [if_neg (by omega), if_neg (by omega), if_neg (by omega)]
          have g0 : decide (a3 ≥ 0) = false := decide_eq_false (by omega)
          have HV := Aside0.mk hv
          clear hv h
          go_upto_region 53 with (fail)
          rotate_left
          obtain rfl : v = st.l0 := hv.symm
          have HV := Aside0.mk hv
          clear hv
          go_upto_region 53 with (fail)
          rotate_left
          obtain rfl : v = st.l1 := hv.symm
          have HV := Aside0.mk hv
          clear hv
          go_upto_region 53 with (fail)
          rotate_left
          obtain rfl : v = st.l2 := hv.symm
          have HV := Aside0.mk hv
          clear hv
          go_upto_region 53 with (fail)
          rotate_left
          obtain rfl : v = 0 := by rw [← hv]; unfold lastP; rw [if_neg (by omega), if_neg (by omega), if_neg (by omega)]
          have g0 : decide (a3 ≥ 0) = true := decide_eq_true (by omega)
          have g1 : decide (a3 ≤ 2) = false := decide_eq_false (by omega)
          have HV := Aside0.mk hv
          clear hv h
          go_upto_region 53 with (fail)
          rotate_left
          all_goals
            clear k0 k1 k2
            go_wp2_with (first | (go_at_call 15; refine (fork_calls HL8.out.si).mono ?_; rintro e w9 ⟨sb2, mb2, rfl, hI9, hb9⟩; have HI9 := Aside0.mk hI9; have HB9 := Aside0.mk hb9; clear hI9 hb9) | (go_at_call 9; refine (example_calls _).mono ?_; rintro e w10 ⟨rfl, hb10⟩; have HI10 := Aside0.mk (HI9.out.below hb10); have HS10 := Aside0.mk (HL8.out.si.below (HB9.out.trans (hb10.mono HB9.out.size))); have HB10 := Aside0.mk (HB9.out.trans (hb10.mono HB9.out.size)); clear hb10) | (go_at_call 16; (with_reducible refine (last_calls HS10.out _).mono ?_); rintro e w11 ⟨rfl, rfl⟩; rw [HV.out]) | (go_at_call 16; (with_reducible refine (last_calls HI10.out _).mono ?_); rintro e w11 ⟨rfl, rfl⟩; rw [HV.out]) | (go_at_call 13; refine (revision_calls HI10.out).mono ?_; rintro e w11 ⟨rfl, rfl⟩))
            go_ret
            exact ⟨rfl, HL8.out.bw.trans (HB10.out.mono HL8.out.bw.size)⟩
    | succ k1 =>
      have hin : i < n := by omega
      obtain ⟨q1, q2, q3, q4⟩ := HN.out
      obtain ⟨x, hx⟩ : ∃ x, l0[i]? = some x := ⟨_, List.getElem?_eq_getElem (by omega)⟩
      obtain ⟨y, hy⟩ : ∃ y, l1[i]? = some y := ⟨_, List.getElem?_eq_getElem (by omega)⟩
      obtain ⟨d, hd⟩ : ∃ d, l2[i]? = some d := ⟨_, List.getElem?_eq_getElem (by omega)⟩
      obtain ⟨ad0, rfl, u0, u1, u2⟩ := at_T34 HR0.out i x hx
      obtain ⟨ad1, Ay, cy, rfl, v0, v1, hcy, hCy⟩ := at_T36 HR1.out i y hy
      obtain ⟨ad2, rfl, t0⟩ := Kd.at_int HR2.out (i : Int) (by omega) (by omega)
      have hrd : rd l2 (i : Int) = d := by unfold rd; rw [Int.toNat_natCast, List.getD_eq_getElem?_getD, hd]; rfl
      rw [hrd, Int.toNat_natCast] at t0
      have HK := Aside0.mk (show ∀ X, Below w.heap.size w X → (X.cell? (ad0.add (i * 3)) = some (.int .i64 x.f0) ∧ X.cell? ⟨(ad0.add (i * 3)).block, (ad0.add (i * 3)).off + 1, none⟩ = some (.int .i64 x.f1) ∧ X.cell? ⟨(ad0.add (i * 3)).block, (ad0.add (i * 3)).off + 2, none⟩ = some (.int .i64 x.f2) ∧ X.cell? (ad1.add (i * 2)) = some (.slice Ay y.f0.length cy) ∧ X.cell? ⟨(ad1.add (i * 2)).block, (ad1.add (i * 2)).off + 1, none⟩ = some (.string y.f1) ∧ X.cell? (ad2.add i) = some (.int .i64 d)) from fun X hX =>
        ⟨(hX.cell (World.block_lt_of_cell? _ _ u0)).trans u0, (hX.cell (World.block_lt_of_cell? _ _ u1)).trans u1, (hX.cell (World.block_lt_of_cell? _ _ u2)).trans u2, (hX.cell (World.block_lt_of_cell? _ _ v0)).trans v0, (hX.cell (World.block_lt_of_cell? _ _ v1)).trans v1, (hX.cell (World.block_lt_of_cell? _ _ t0)).trans t0⟩)
      have HCY := Aside0.mk hcy
      have HYC := Aside0.mk hCy
      have HYL := Aside0.mk (HLIM.out y (List.mem_of_getElem? hy))
      have tn : decide (i < n) = true := decide_eq_true (by omega)
      have p4 := eq_true (show i < l0.length by omega)
      have p5 := eq_true (show i < l1.length by omega)
      have p6 := eq_true (show i < l2.length by omega)
      have p0 := eq_true (show (0 : Int) ≤ (i : Int) by omega)
      have p1 := eq_true (show (i : Int) < (l0.length : Int) by omega)
      have p2 := eq_true (show (i : Int) < (l1.length : Int) by omega)
      have p3 := eq_true (show (i : Int) < (l2.length : Int) by omega)
      have HII := Aside0.mk hi
      have HIN := Aside0.mk hin
      have hu34 := Try.underlying34
      have hu36 := Try.underlying36
      have hu38 := Try.underlying38
      have hu40 := Try.underlying40
      clear hx hy hd u0 u1 u2 v0 v1 t0 hcy hCy hrd q1 q2 q3 q4 hi hin
      go_upto_region 12 with (fail)
      refine start_ (n := 19) (S := fun w' => w'.cell? (ad0.add (i * 3)) = some (.int .i64 x.f0) ∧ w'.cell? ⟨(ad0.add (i * 3)).block, (ad0.add (i * 3)).off + 1, none⟩ = some (.int .i64 x.f1) ∧ w'.cell? ⟨(ad0.add (i * 3)).block, (ad0.add (i * 3)).off + 2, none⟩ = some (.int .i64 x.f2) ∧ w'.cell? (ad1.add (i * 2)) = some (.slice Ay y.f0.length cy) ∧ w'.cell? ⟨(ad1.add (i * 2)).block, (ad1.add (i * 2)).off + 1, none⟩ = some (.string y.f1) ∧ w'.cell? (ad2.add i) = some (.int .i64 d)) (ds := ([] : List Nat)) #[false, false, false, false, false, false, false, false, false, false, false, false, false, false, false, false, false, false, false] (by kernel_rfl) rfl rfl (HK.out _ (below_drew1 hR.out.1.bw)) (fun hHeld => ?_)
      refine pure_ (i := 0) (N := some 48) (v := ?_) (a' := ?_) #[true, false, false, false, false, false, false, false, false, false, false, false, false, false, false, false, false, false, false] rfl rfl (by kernel_rfl) (fun _ _ _ h => h) (Or.inl ⟨by rfl, ?_⟩) ?_ ?_
      rotate_left
      · intro w'
        go_simp
        with_reducible rfl
      rotate_left
      · simp only [Act.put, List.setIfInBounds_toArray, List.set_cons_zero, List.set_cons_succ, i64_w, i32_w]
        rfl
      refine pure_ (i := 1) (N := some 49) (v := ?_) (a' := ?_) #[true, true, false, false, false, false, false, false, false, false, false, false, false, false, false, false, false, false, false] rfl rfl (by kernel_rfl) (fun _ _ _ h => h) (Or.inl ⟨by rfl, ?_⟩) ?_ ?_
      rotate_left
      · intro w'
        go_simp
        with_reducible rfl
      rotate_left
      · simp only [Act.put, List.setIfInBounds_toArray, List.set_cons_zero, List.set_cons_succ, i64_w, i32_w]
        rfl
      refine pure_ (i := 2) (N := some 50) (v := ?_) (a' := ?_) #[true, true, true, false, false, false, false, false, false, false, false, false, false, false, false, false, false, false, false] rfl rfl (by kernel_rfl) (fun _ _ _ h => h) (Or.inl ⟨by rfl, ?_⟩) ?_ ?_
      rotate_left
      · intro w'
        go_simp
        with_reducible rfl
      rotate_left
      · simp only [Act.put, List.setIfInBounds_toArray, List.set_cons_zero, List.set_cons_succ, i64_w, i32_w]
        rfl
      refine pure_ (i := 3) (N := some 51) (v := ?_) (a' := ?_) #[true, true, true, true, false, false, false, false, false, false, false, false, false, false, false, false, false, false, false] rfl rfl (by kernel_rfl) (fun _ _ _ h => h) (Or.inl ⟨by rfl, ?_⟩) ?_ ?_
      rotate_left
      · intro w'
        go_simp
        with_reducible rfl
      rotate_left
      · simp only [Act.put, List.setIfInBounds_toArray, List.set_cons_zero, List.set_cons_succ, i64_w, i32_w]
        rfl
      refine take_ (i := 4) (N := some 52) (v := ?_) (a' := ?_) #[true, true, true, true, true, false, false, false, false, false, false, false, false, false, false, false, false, false, false] rfl rfl (by kernel_rfl) (fun _ _ _ h => h) (Or.inl ⟨by rfl, ?_⟩) hHeld ?_ ?_
      rotate_left
      · rintro w' ⟨s0_, s1_, s2_, s3_, s4_, s5_⟩
        go_simp
        with_reducible rfl
      rotate_left
      · simp only [Act.put, List.setIfInBounds_toArray, List.set_cons_zero, List.set_cons_succ, i64_w, i32_w]
        rfl
      refine pure_ (i := 5) (N := some 53) (v := ?_) (a' := ?_) #[true, true, true, true, true, true, false, false, false, false, false, false, false, false, false, false, false, false, false] rfl rfl (by kernel_rfl) (fun _ _ _ h => h) (Or.inl ⟨by rfl, ?_⟩) ?_ ?_
      rotate_left
      · intro w'
        go_simp
        with_reducible rfl
      rotate_left
      · simp only [Act.put, List.setIfInBounds_toArray, List.set_cons_zero, List.set_cons_succ, i64_w, i32_w]
        rfl
      refine pure_ (i := 6) (N := some 54) (v := ?_) (a' := ?_) #[true, true, true, true, true, true, true, false, false, false, false, false, false, false, false, false, false, false, false] rfl rfl (by kernel_rfl) (fun _ _ _ h => h) (Or.inl ⟨by rfl, ?_⟩) ?_ ?_
      rotate_left
      · intro w'
        go_simp
        with_reducible rfl
      rotate_left
      · simp only [Act.put, List.setIfInBounds_toArray, List.set_cons_zero, List.set_cons_succ, i64_w, i32_w]
        rfl
      refine pure_ (i := 7) (N := some 55) (v := ?_) (a' := ?_) #[true, true, true, true, true, true, true, true, false, false, false, false, false, false, false, false, false, false, false] rfl rfl (by kernel_rfl) (fun _ _ _ h => h) (Or.inl ⟨by rfl, ?_⟩) ?_ ?_
      rotate_left
      · intro w'
        go_simp
        with_reducible rfl
      rotate_left
      · simp only [Act.put, List.setIfInBounds_toArray, List.set_cons_zero, List.set_cons_succ, i64_w, i32_w]
        rfl
      refine take_ (i := 8) (N := some 56) (v := ?_) (a' := ?_) #[true, true, true, true, true, true, true, true, true, false, false, false, false, false, false, false, false, false, false] rfl rfl (by kernel_rfl) (fun _ _ _ h => h) (Or.inl ⟨by rfl, ?_⟩) hHeld ?_ ?_
      rotate_left
      · rintro w' ⟨s0_, s1_, s2_, s3_, s4_, s5_⟩
        go_simp
        with_reducible rfl
      rotate_left
      · simp only [Act.put, List.setIfInBounds_toArray, List.set_cons_zero, List.set_cons_succ, i64_w, i32_w]
        rfl
      refine pure_ (i := 9) (N := some 57) (v := ?_) (a' := ?_) #[true, true, true, true, true, true, true, true, true, true, false, false, false, false, false, false, false, false, false] rfl rfl (by kernel_rfl) (fun _ _ _ h => h) (Or.inl ⟨by rfl, ?_⟩) ?_ ?_
      rotate_left
      · intro w'
        go_simp
        with_reducible rfl
      rotate_left
      · simp only [Act.put, List.setIfInBounds_toArray, List.set_cons_zero, List.set_cons_succ, i64_w, i32_w]
        rfl
      refine pure_ (i := 10) (N := some 58) (v := ?_) (a' := ?_) #[true, true, true, true, true, true, true, true, true, true, true, false, false, false, false, false, false, false, false] rfl rfl (by kernel_rfl) (fun _ _ _ h => h) (Or.inl ⟨by rfl, ?_⟩) ?_ ?_
      rotate_left
      · intro w'
        go_simp
        with_reducible rfl
      rotate_left
      · simp only [Act.put, List.setIfInBounds_toArray, List.set_cons_zero, List.set_cons_succ, i64_w, i32_w]
        rfl
      refine pure_ (i := 11) (N := some 59) (v := ?_) (a' := ?_) #[true, true, true, true, true, true, true, true, true, true, true, true, false, false, false, false, false, false, false] rfl rfl (by kernel_rfl) (fun _ _ _ h => h) (Or.inl ⟨by rfl, ?_⟩) ?_ ?_
      rotate_left
      · intro w'
        go_simp
        with_reducible rfl
      rotate_left
      · simp only [Act.put, List.setIfInBounds_toArray, List.set_cons_zero, List.set_cons_succ, i64_w, i32_w]
        rfl
      refine take_ (i := 12) (N := some 60) (v := ?_) (a' := ?_) #[true, true, true, true, true, true, true, true, true, true, true, true, true, false, false, false, false, false, false] rfl rfl (by kernel_rfl) (fun _ _ _ h => h) (Or.inl ⟨by rfl, ?_⟩) hHeld ?_ ?_
      rotate_left
      · rintro w' ⟨s0_, s1_, s2_, s3_, s4_, s5_⟩
        go_simp
        with_reducible rfl
      rotate_left
      · simp only [Act.put, List.setIfInBounds_toArray, List.set_cons_zero, List.set_cons_succ, i64_w, i32_w]
        rfl
      refine one_ (i := 13) (N := some 61) #[true, true, true, true, true, true, true, true, true, true, true, true, true, true, false, false, false, false, false] rfl rfl (by kernel_rfl) (by decide) (fun K hK => ?_)
      refine goes_ Try.func11 (by kernel_rfl) rfl #[.pointer (some ⟨sb, 0, none⟩), .agg #[.int .i64 x.f0, .int .i64 x.f1, .int .i64 x.f2], .agg #[.slice Ay y.f0.length cy, .string y.f1], .int .i64 d] (by rfl) rfl rfl (by (try simp only [List.map_toArray, List.map_cons, List.map_nil]); first | done | rfl) ?_
      refine (set_calls (hR.out.1.si.below (below_drew1 (Below.refl _ _))) x Ay cy y.f0 y.f1 d (fun X hX => Kd.C_below HYC.out ((below_drew1 hR.out.1.bw).trans (hX.to_below (fun j _ e => by have := hR.out.1.b1; have := hR.out.1.b2; omega) (below_drew1 hR.out.1.bw).size))) HCY.out HYL.out hR.out.2.2.2.1 (by have := hR.out.2.2.2.2; have := HN.out; have := HIN.out; omega)).mono ?_
      rintro e w4 ⟨rfl, hI4, hc4⟩
      refine ⟨_, rfl, ?_⟩
      obtain ⟨⟨ch, er, st'⟩, hset⟩ : ∃ q, setP st x y.f0 y.f1 d = q := ⟨_, rfl⟩
      rw [hset] at hI4 ⊢
      dsimp only at hI4 ⊢
      have HX4 := Aside0.mk ((hR.out.1.below (below_drew1 (Below.refl _ _))).sets hI4 hc4)
      have HSET := Aside0.mk hset
      clear hI4 hc4 hset
      refine hK.out _ _ (HK.out _ HX4.out.bw) (fun hHeld => ?_)
      clear hK K
      refine norm_ (a' := ?_) ?_ ?_
      rotate_left
      · show Act.put _ (some 61) _ = _
        simp only [Act.put, List.setIfInBounds_toArray, List.set_cons_zero, List.set_cons_succ, i64_w, i32_w]
        rfl
      refine pure_ (i := 14) (N := some 47) (v := ?_) (a' := ?_) #[true, true, true, true, true, true, true, true, true, true, true, true, true, true, true, false, false, false, false] rfl rfl (by kernel_rfl) (fun _ _ _ h => h) (Or.inl ⟨by rfl, ?_⟩) ?_ ?_
      rotate_left
      · intro w'
        go_simp
        with_reducible rfl
      rotate_left
      · simp only [Act.put, List.setIfInBounds_toArray, List.set_cons_zero, List.set_cons_succ, i64_w, i32_w]
        rfl
      refine pure_ (i := 15) (N := some 62) (v := ?_) (a' := ?_) #[true, true, true, true, true, true, true, true, true, true, true, true, true, true, true, true, false, false, false] rfl rfl (by kernel_rfl) (fun _ _ _ h => h) (Or.inl ⟨by rfl, ?_⟩) ?_ ?_
      rotate_left
      · intro w'
        go_simp
        with_reducible rfl
      rotate_left
      · simp only [Act.put, List.setIfInBounds_toArray, List.set_cons_zero, List.set_cons_succ, i64_w, i32_w]
        rfl
      refine pure_ (i := 16) (N := some 63) (v := ?_) (a' := ?_) #[true, true, true, true, true, true, true, true, true, true, true, true, true, true, true, true, true, false, false] rfl rfl (by kernel_rfl) (fun _ _ _ h => h) (Or.inl ⟨by rfl, ?_⟩) ?_ ?_
      rotate_left
      · intro w'
        go_simp
        with_reducible rfl
      rotate_left
      · simp only [Act.put, List.setIfInBounds_toArray, List.set_cons_zero, List.set_cons_succ, i64_w, i32_w]
        rfl
      refine pure_ (i := 17) (N := some 15) (v := ?_) (a' := ?_) #[true, true, true, true, true, true, true, true, true, true, true, true, true, true, true, true, true, true, false] rfl rfl (by kernel_rfl) (fun _ _ _ h => h) (Or.inl ⟨by rfl, ?_⟩) ?_ ?_
      rotate_left
      · intro w'
        go_simp
        with_reducible rfl
      rotate_left
      · simp only [Act.put, List.setIfInBounds_toArray, List.set_cons_zero, List.set_cons_succ, i64_w, i32_w]
        rfl
      refine pure_ (i := 18) (N := some 16) (v := ?_) (a' := ?_) #[true, true, true, true, true, true, true, true, true, true, true, true, true, true, true, true, true, true, true] rfl rfl (by kernel_rfl) (fun _ _ _ h => h) (Or.inl ⟨by rfl, ?_⟩) ?_ ?_
      rotate_left
      · intro w'
        go_simp
        with_reducible rfl
      rotate_left
      · simp only [Act.put, List.setIfInBounds_toArray, List.set_cons_zero, List.set_cons_succ, i64_w, i32_w]
        rfl
      refine done_ (by kernel_rfl) ?_
      clear hHeld
      obtain ⟨z0, z1, z2, z3, z4, z5⟩ := HK.out _ HX4.out.bw
      have hw : wrap64 ((i : Int) + 1) = ((i + 1 : Nat) : Int) := by have := HIN.out; have := HN.out; unfold wrap64; omega
      have HW := Aside0.mk hw
      clear hw
      by_cases f0 : x.f0 = 0
      case neg =>
        have hst := HSET.out
        unfold setP at hst
        rw [if_pos f0] at hst
        injection hst with g1 g2
        injection g2 with g2 g3
        subst g1 g2 g3
        have bf : (x.f0 != 0) = true := bne_iff_ne.2 f0
        clear f0 HSET
        have HNX := Aside0.mk (show LawI w sb mb w2.heap.size (i + 1) st kn V cv w4 from ⟨HX4.out, hR.out.2.1, by have := hR.out.2.2.1; omega, hR.out.2.2.2.1, by have := hR.out.2.2.2.2; omega⟩)
        go_wp2
        go_roundg k1
        case measure => omega
        case rel => exact ⟨i + 1, st, kn, V, cv, rfl, rfl, by first | rfl | rw [HW.out], by have := HII.out; omega, HNX⟩
      by_cases f1 : d < 0
      case pos =>
        have hst := HSET.out
        unfold setP at hst
        rw [if_neg (by omega), if_pos (.inl f1)] at hst
        injection hst with g1 g2
        injection g2 with g2 g3
        subst g1 g2 g3
        have bf : (x.f0 != 0) = false := bne_eq_false_iff_eq.2 f0
        have bd : decide (d < 0) = true := decide_eq_true f1
        clear f0 f1 HSET
        have HNX := Aside0.mk (show LawI w sb mb w2.heap.size (i + 1) st kn V cv w4 from ⟨HX4.out, hR.out.2.1, by have := hR.out.2.2.1; omega, hR.out.2.2.2.1, by have := hR.out.2.2.2.2; omega⟩)
        go_wp2
        go_roundg k1
        case measure => omega
        case rel => exact ⟨i + 1, st, kn, V, cv, rfl, rfl, by first | rfl | rw [HW.out], by have := HII.out; omega, HNX⟩
      by_cases f2 : d ≥ 3
      case pos =>
        have hst := HSET.out
        unfold setP at hst
        rw [if_neg (by omega), if_pos (.inr f2)] at hst
        injection hst with g1 g2
        injection g2 with g2 g3
        subst g1 g2 g3
        have bf : (x.f0 != 0) = false := bne_eq_false_iff_eq.2 f0
        have bd : decide (d < 0) = false := decide_eq_false f1
        have be : decide (d > 2) = true := decide_eq_true (by omega)
        clear f0 f1 f2 HSET
        have HNX := Aside0.mk (show LawI w sb mb w2.heap.size (i + 1) st kn V cv w4 from ⟨HX4.out, hR.out.2.1, by have := hR.out.2.2.1; omega, hR.out.2.2.2.1, by have := hR.out.2.2.2.2; omega⟩)
        go_wp2
        go_roundg k1
        case measure => omega
        case rel => exact ⟨i + 1, st, kn, V, cv, rfl, rfl, by first | rfl | rw [HW.out], by have := HII.out; omega, HNX⟩
      have bf : (x.f0 != 0) = false := bne_eq_false_iff_eq.2 f0
      have bd : decide (d < 0) = false := decide_eq_false f1
      have be : decide (d > 2) = false := decide_eq_false (by omega)
      have hst := HSET.out
      unfold setP at hst
      rw [if_neg (by omega), if_neg (by omega)] at hst
      have HST := Aside0.mk hst
      have hd0 : 0 ≤ d := by omega
      have hd2 : d ≤ 2 := by omega
      clear f0 f1 f2 HSET hst
      go_upto_block 2 with (fail)
      go_cut [18] (fun v18 wx => v18 = .int .i64 (kI (kn.map (·.k)) x) ∧ Aside0 (Below w4.heap.size w4 wx))
      case first =>
        go_wp2
        go_loopg [18, 98] kn.length (fun kq v18 v98 W => ∃ j : Nat, v18 = .int .i64 (kI ((kn.map (·.k)).take j) x) ∧ v98 = .int .i64 (j : Int) ∧ kq + j = kn.length ∧ Aside0 (Below w4.heap.size w4 W))
        case atStart => exact ⟨0, rfl, rfl, by omega, ⟨Below.refl _ _⟩⟩
        case round =>
          obtain ⟨j, rfl, rfl, hj, hb5⟩ := hrel
          cases gk with
          | zero =>
            obtain rfl : j = kn.length := by omega
            have b0 : decide (kn.length < kn.length) = false := by simp
            have HKI := Aside0.mk (show kI ((kn.map (·.k)).take kn.length) x = kI (kn.map (·.k)) x by rw [List.take_of_length_le (by simp)])
            clear hj
            go_wp2
            go_meet
            case rel => exact ⟨by rw [HKI.out], hb5⟩
          | succ k2 =>
            have hjl : j < kn.length := by omega
            obtain ⟨p, hp⟩ : ∃ p, kn[j]? = some p := ⟨_, List.getElem?_eq_getElem hjl⟩
            have hx5 := HX4.out.below hb5.out
            obtain ⟨adk, hV, hg, hcc, hff⟩ := hx5.elem j p hp
            have c0 : wr.cell? (adk.add (j * 7)) = some (.int .i64 p.k.f0) := hcc 0 _ rfl
            have c1 : wr.cell? ⟨(adk.add (j * 7)).block, (adk.add (j * 7)).off + 1, none⟩ = some (.int .i64 p.k.f1) := by rw [← add_field _ _ 1 (by omega)]; exact hcc 1 _ rfl
            have c2 : wr.cell? ⟨(adk.add (j * 7)).block, (adk.add (j * 7)).off + 2, none⟩ = some (.int .i64 p.k.f2) := by rw [← add_field _ _ 2 (by omega)]; exact hcc 2 _ rfl
            obtain ⟨z0, z1, z2, _, _, _⟩ := HK.out _ hx5.bw
            subst hV
            have b0 : decide (j < kn.length) = true := decide_eq_true hjl
            have r0 := eq_true (show (0 : Int) ≤ (j : Int) by omega)
            have r1 := eq_true (show (j : Int) < (kn.length : Int) by omega)
            have r2 := eq_true hjl
            have hq1 := key_eq p.k x
            have hq2 := key_eql p.k x
            have hks := kI_step hR.out.2.1.1 x p.k j (by rw [List.getElem?_map, hp]; rfl)
            have HJ := Aside0.mk hj
            have hw2 : wrap64 ((j : Int) + 1) = ((j + 1 : Nat) : Int) := by have := hR.out.2.2.1; have := HN.out; have := HIN.out; unfold wrap64; omega
            have HW2 := Aside0.mk hw2
            have HKS := Aside0.mk hks
            clear hw2 hks hj hp hx5 hcc hff hg hjl
            by_cases hpk : p.k = x
            · have HPK := Aside0.mk hpk
              rw [decide_eq_true hpk] at hq1 hq2
              clear hpk
              go_upto_region 23 with (fail)
              go_quiet (fail)
              go_wp2
              go_roundg k2
              case measure => omega
              case rel => exact ⟨j + 1, by rw [HKS.out, if_pos HPK.out], by first | rfl | rw [HW2.out], by have := HJ.out; omega, ⟨pw_below_drewN hb5.out _⟩⟩
            · have HPK := Aside0.mk hpk
              rw [decide_eq_false hpk] at hq1 hq2
              clear hpk
              go_upto_region 23 with (fail)
              go_quiet (fail)
              go_wp2
              go_roundg k2
              case measure => omega
              case rel => exact ⟨j + 1, by rw [HKS.out, if_neg HPK.out], by first | rfl | rw [HW2.out], by have := HJ.out; omega, ⟨pw_below_drewN hb5.out _⟩⟩
      case rest =>
        obtain ⟨rfl, hb5⟩ := hcut
        have HX5 := Aside0.mk (HX4.out.below hb5.out)
        obtain ⟨kk, hkk⟩ : ∃ kk, kI (kn.map (·.k)) x = kk := ⟨_, rfl⟩
        rw [hkk]
        have HKK := Aside0.mk hkk
        have hg1 := info_40
        clear hkk hb5 z0 z1 z2 z3 z4 z5
        obtain ⟨z0, z1, z2, _, _, _⟩ := HK.out _ HX5.out.bw
        go_upto_if 114 with (fail)
        go_cut [11, 18] (fun v11 v18 wx => ∃ (kn1 : List Kn) (V1 : Option Addr) (cv1 j1 : Nat) (p1 : Kn), v11 = .slice V1 kn1.length cv1 ∧ v18 = .int .i64 (j1 : Int) ∧ Aside0 (LI w sb mb w2.heap.size st' st.l0 st.l1 st.l2 kn1 V1 cv1 wx ∧ Rel st kn1 ∧ kn1[j1]? = some p1 ∧ p1.k = x ∧ kn1.length ≤ i + 1))
        case first =>
          by_cases hk0 : kk < 0
          · have bk : decide (kk < 0) = true := decide_eq_true hk0
            have HNEW := Aside0.mk (kI_none (by rw [HKK.out]; exact hk0))
            have HOR := Aside0.mk (Kd.R_mono HX5.out.kr (ok' := fun _ => True) (fun _ _ => trivial))
            have HLE := Aside0.mk (show ((kn.map Kn.enc).length + 1) * 80 ≤ 140737488355328 by rw [List.length_map]; have := hR.out.2.2.1; have := HN.out; have := HIN.out; omega)
            go_wp2_with (first | ((with_reducible refine gate_builtin (b := .append) (xs := #[.tmp 117, .tmp 123]) rfl ?_); at_builtin; refine Kd.R_append (Kd.raw 7) (w0 := w) w.heap.size rfl (.tmp 117) (.tmp 123) 28 40 (.agg #[.int .i64 0, .int .i64 0, .int .i64 0, .slice none 0 0, .string (⟨#[]⟩ : ByteArray), .int .i64 0, .int .i64 0]) 80 rfl Try.underlying28 info_40 rfl (by decide) (by omega) (.slice V kn.length cv) (kn.map Kn.enc) [.int .i64 x.f0, .int .i64 x.f1, .int .i64 x.f2, .slice none 0 0, .string (⟨#[]⟩ : ByteArray), .int .i64 0, .int .i64 0] [.int .i64 x.f0, .int .i64 x.f1, .int .i64 x.f2, .slice none 0 0, .string (⟨#[]⟩ : ByteArray), .int .i64 0, .int .i64 0] (fun _ => True) (fun _ => False) rfl rfl ⟨rfl, rfl, Kn.enc_one ⟨x, none, 0, zIn⟩⟩ (fun _ h => h.elim) (fun _ _ => trivial) HOR.out HX5.out.bw HX5.out.bw.size HLE.out ?_; intro v6 w6 ho6 hb6 hg6 hat6; obtain ⟨V6, c6, hv6⟩ := Kd.R_slice ho6; rw [List.length_append, List.length_map, List.length_singleton] at hv6; subst hv6; have HO6 := Aside0.mk ho6; have HB6 := Aside0.mk hb6; have HG6 := Aside0.mk hg6; clear ho6 hb6 hg6 hat6))
            go_meet
            case rel =>
              refine ⟨kn ++ [⟨x, none, 0, zIn⟩], V6, c6, kn.length, ⟨x, none, 0, zIn⟩, by rw [List.length_append]; rfl, rfl, ⟨HX5.out.row HG6.out ?_ HB6.out ?_, ⟨?_, fun z => ?_⟩, by simp, rfl, by have := hR.out.2.2.1; simp; omega⟩⟩
              · rw [List.length_append, List.map_append]; exact HO6.out
              · intro p hp
                rcases List.mem_append.1 hp with hp | hp
                · exact HX5.out.kv p hp
                · rw [List.mem_singleton] at hp; subst hp; exact ⟨Nat.le_refl _, Kd.C_nil _ _⟩
              · rw [List.map_append, List.nodup_append]
                refine ⟨hR.out.2.1.1, by simp, fun a ha b hb => ?_⟩
                simp at hb
                subst hb
                exact fun e => HNEW.out (by rw [← e]; exact ha)
              · rw [getP_snoc z rfl]; exact hR.out.2.1.2 z
          · have bk : decide (kk < 0) = false := decide_eq_false hk0
            obtain ⟨j1, hj1, hj2⟩ := kI_some (ks := kn.map (·.k)) (x := x) (by rw [HKK.out]; omega)
            rw [HKK.out] at hj1
            subst hj1
            rw [List.getElem?_map] at hj2
            obtain ⟨p1, hp1, hp2⟩ := Option.map_eq_some_iff.1 hj2
            have HP1 := Aside0.mk hp1
            have HP2 := Aside0.mk hp2
            clear hj2 hp1 hp2
            go_wp2
            go_meet
            case rel => exact ⟨kn, V, cv, j1, p1, rfl, rfl, ⟨HX5.out, hR.out.2.1, HP1.out, HP2.out, by have := hR.out.2.2.1; omega⟩⟩
        case rest =>
          obtain ⟨kn1, V1, cv1, j1, p1, rfl, rfl, hY⟩ := hcut
          have HKV := Aside0.mk (hY.out.1.kv p1 (List.mem_of_getElem? hY.out.2.2.1))
          obtain ⟨adk, hV, hg, hcc, hff⟩ := hY.out.1.elem j1 p1 hY.out.2.2.1
          have hjl := (List.getElem?_eq_some_iff.1 hY.out.2.2.1).1
          have c3 : wc.cell? ⟨(adk.add (j1 * 7)).block, (adk.add (j1 * 7)).off + 3, none⟩ = some (.slice p1.A p1.v.nums.length p1.c) := by rw [← add_field _ _ 3 (by omega)]; exact hcc 3 _ rfl
          have c4 : wc.cell? ⟨(adk.add (j1 * 7)).block, (adk.add (j1 * 7)).off + 4, none⟩ = some (.string p1.v.text) := by rw [← add_field _ _ 4 (by omega)]; exact hcc 4 _ rfl
          have c5 : wc.cell? ⟨(adk.add (j1 * 7)).block, (adk.add (j1 * 7)).off + 5, none⟩ = some (.int .i64 p1.v.chg) := by rw [← add_field _ _ 5 (by omega)]; exact hcc 5 _ rfl
          have c6 : wc.cell? ⟨(adk.add (j1 * 7)).block, (adk.add (j1 * 7)).off + 6, none⟩ = some (.int .i64 p1.v.dur) := by rw [← add_field _ _ 6 (by omega)]; exact hcc 6 _ rfl
          have r0 := eq_true (show (0 : Int) ≤ (j1 : Int) by omega)
          have r1 := eq_true (show (j1 : Int) < (kn1.length : Int) by omega)
          have r2 := eq_true hjl
          have HG := Aside0.mk hg
          subst hV
          clear hjl hcc hff hg hg1 z0 z1 z2
          go_upto_region 30 with (fail)
          obtain ⟨W6, hW6⟩ : ∃ W6, wc.alloc (.cells #[.slice p1.A p1.v.nums.length p1.c, .string p1.v.text, .int .i64 p1.v.chg, .int .i64 p1.v.dur] 38) = W6 := ⟨_, rfl⟩
          have hb6 : Below wc.heap.size wc W6 := by rw [← hW6]; exact below_alloc (Below.refl _ _) _
          have ho6 : W6.heap[wc.heap.size]? = some (.cells #[.slice p1.A p1.v.nums.length p1.c, .string p1.v.text, .int .i64 p1.v.chg, .int .i64 p1.v.dur] 38 (0, 0)) := by rw [← hW6]; exact hb_new _ _
          obtain ⟨ob, hob⟩ : ∃ ob, wc.heap.size = ob := ⟨_, rfl⟩
          rw [hW6]
          rw [hob] at ho6 ⊢
          clear hW6 hob
          have HO6 := Aside0.mk ho6
          have HL6 := Aside0.mk (hY.out.1.below hb6)
          have HBW6 := Aside0.mk HL6.out.bw
          have HS6 := Aside0.mk (show ∀ X, Below W6.heap.size W6 X → (X.cell? ⟨ob, 0, none⟩ = some (.slice p1.A p1.v.nums.length p1.c) ∧ X.cell? ⟨ob, 1, none⟩ = some (.string p1.v.text) ∧ X.cell? ⟨ob, 3, none⟩ = some (.int .i64 p1.v.dur) ∧ X.cell? (ad1.add (i * 2)) = some (.slice Ay y.f0.length cy) ∧ X.cell? ⟨(ad1.add (i * 2)).block, (ad1.add (i * 2)).off + 1, none⟩ = some (.string y.f1) ∧ X.cell? (ad2.add i) = some (.int .i64 d)) from fun X hX => by
            have hk := (hX.block _ (lt_of_blk ho6)).trans ho6
            obtain ⟨_, _, _, g3, g4, g5⟩ := HK.out X (HBW6.out.trans (hX.mono HBW6.out.size))
            exact ⟨(cells_of_blk hk 0).trans rfl, (cells_of_blk hk 1).trans rfl, (cells_of_blk hk 3).trans rfl, g3, g4, g5⟩)
          have hpv : getP st.m x = p1.v := by rw [hY.out.2.1.2 x, ← hY.out.2.2.2.1]; exact getP_at hY.out.2.1.1 hY.out.2.2.1
          have hst2 := HST.out
          rw [hpv] at hst2
          have HST2 := Aside0.mk hst2
          clear hst2 hpv hb6 ho6 c3 c4 c5 c6
          obtain ⟨ve, hve⟩ : ∃ ve, valEq p1.v.nums p1.v.text y.f0 y.f1 = ve := ⟨_, rfl⟩
          have HVE := Aside0.mk hve
          clear hve
          go_cut [21] (fun v21 wx => v21 = .bool (!ve || (p1.v.dur != d)) ∧ Aside0 (Below W6.heap.size W6 wx))
          case first =>
            cases ve with
            | false =>
              as_aux_lemma =>
                refine start_ (n := 18) (S := fun w' => w'.cell? ⟨ob, 0, none⟩ = some (.slice p1.A p1.v.nums.length p1.c) ∧ w'.cell? ⟨ob, 1, none⟩ = some (.string p1.v.text) ∧ w'.cell? ⟨ob, 3, none⟩ = some (.int .i64 p1.v.dur) ∧ w'.cell? (ad1.add (i * 2)) = some (.slice Ay y.f0.length cy) ∧ w'.cell? ⟨(ad1.add (i * 2)).block, (ad1.add (i * 2)).off + 1, none⟩ = some (.string y.f1) ∧ w'.cell? (ad2.add i) = some (.int .i64 d)) (ds := ([] : List Nat)) #[false, false, false, false, false, false, false, false, false, false, false, false, false, false, false, false, false, false] (by kernel_rfl) rfl rfl (HS6.out _ (below_drew1 (Below.refl _ _))) (fun hHeld => ?_)
                refine pure_ (i := 0) (N := some 130) (v := ?_) (a' := ?_) #[true, false, false, false, false, false, false, false, false, false, false, false, false, false, false, false, false, false] rfl rfl (by kernel_rfl) (fun _ _ _ h => h) (Or.inl ⟨by rfl, ?_⟩) ?_ ?_
                rotate_left
                · intro w'
                  go_simp
                  with_reducible rfl
                rotate_left
                · simp only [Act.put, List.setIfInBounds_toArray, List.set_cons_zero, List.set_cons_succ, i64_w, i32_w]
                  rfl
                refine take_ (i := 1) (N := some 131) (v := ?_) (a' := ?_) #[true, true, false, false, false, false, false, false, false, false, false, false, false, false, false, false, false, false] rfl rfl (by kernel_rfl) (fun _ _ _ h => h) (Or.inl ⟨by rfl, ?_⟩) hHeld ?_ ?_
                rotate_left
                · rintro w' ⟨s0_, s1_, s2_, s3_, s4_, s5_⟩
                  go_simp
                  with_reducible rfl
                rotate_left
                · simp only [Act.put, List.setIfInBounds_toArray, List.set_cons_zero, List.set_cons_succ, i64_w, i32_w]
                  rfl
                refine pure_ (i := 2) (N := some 132) (v := ?_) (a' := ?_) #[true, true, true, false, false, false, false, false, false, false, false, false, false, false, false, false, false, false] rfl rfl (by kernel_rfl) (fun _ _ _ h => h) (Or.inl ⟨by rfl, ?_⟩) ?_ ?_
                rotate_left
                · intro w'
                  go_simp
                  with_reducible rfl
                rotate_left
                · simp only [Act.put, List.setIfInBounds_toArray, List.set_cons_zero, List.set_cons_succ, i64_w, i32_w]
                  rfl
                refine pure_ (i := 3) (N := some 133) (v := ?_) (a' := ?_) #[true, true, true, true, false, false, false, false, false, false, false, false, false, false, false, false, false, false] rfl rfl (by kernel_rfl) (fun _ _ _ h => h) (Or.inl ⟨by rfl, ?_⟩) ?_ ?_
                rotate_left
                · intro w'
                  go_simp
                  with_reducible rfl
                rotate_left
                · simp only [Act.put, List.setIfInBounds_toArray, List.set_cons_zero, List.set_cons_succ, i64_w, i32_w]
                  rfl
                refine pure_ (i := 4) (N := some 134) (v := ?_) (a' := ?_) #[true, true, true, true, true, false, false, false, false, false, false, false, false, false, false, false, false, false] rfl rfl (by kernel_rfl) (fun _ _ _ h => h) (Or.inl ⟨by rfl, ?_⟩) ?_ ?_
                rotate_left
                · intro w'
                  go_simp
                  with_reducible rfl
                rotate_left
                · simp only [Act.put, List.setIfInBounds_toArray, List.set_cons_zero, List.set_cons_succ, i64_w, i32_w]
                  rfl
                refine take_ (i := 5) (N := some 135) (v := ?_) (a' := ?_) #[true, true, true, true, true, true, false, false, false, false, false, false, false, false, false, false, false, false] rfl rfl (by kernel_rfl) (fun _ _ _ h => h) (Or.inl ⟨by rfl, ?_⟩) hHeld ?_ ?_
                rotate_left
                · rintro w' ⟨s0_, s1_, s2_, s3_, s4_, s5_⟩
                  go_simp
                  with_reducible rfl
                rotate_left
                · simp only [Act.put, List.setIfInBounds_toArray, List.set_cons_zero, List.set_cons_succ, i64_w, i32_w]
                  rfl
                refine one_ (i := 6) (N := some 136) #[true, true, true, true, true, true, true, false, false, false, false, false, false, false, false, false, false, false] rfl rfl (by kernel_rfl) (by decide) (fun K hK => ?_)
                refine goes_ Try.func12 (by kernel_rfl) rfl #[.agg #[.slice p1.A p1.v.nums.length p1.c, .string p1.v.text], .agg #[.slice Ay y.f0.length cy, .string y.f1]] (by rfl) rfl rfl (by (try simp only [List.map_toArray, List.map_cons, List.map_nil]); first | done | rfl) ?_
                refine (eqv_calls p1.A p1.c p1.v.nums p1.v.text Ay cy y.f0 y.f1 _ (Kd.C_below HKV.out.2 (below_drew1 HBW6.out)) HKV.out.1 (Kd.C_below HYC.out (below_drew1 HBW6.out)) HCY.out).mono ?_
                rintro e w7 ⟨rfl, hb7⟩
                refine ⟨_, rfl, ?_⟩
                have HB7 := Aside0.mk ((below_drew1 (Below.refl W6.heap.size W6)).trans hb7)
                clear hb7
                rw [HVE.out]
                refine hK.out _ _ (HS6.out _ HB7.out) (fun hHeld => ?_)
                clear hK K
                refine norm_ (a' := ?_) ?_ ?_
                rotate_left
                · show Act.put _ (some 136) _ = _
                  simp only [Act.put, List.setIfInBounds_toArray, List.set_cons_zero, List.set_cons_succ, i64_w, i32_w]
                  rfl
                refine pure_ (i := 7) (N := some 137) (v := ?_) (a' := ?_) #[true, true, true, true, true, true, true, true, false, false, false, false, false, false, false, false, false, false] rfl rfl (by kernel_rfl) (fun _ _ _ h => h) (Or.inl ⟨by rfl, ?_⟩) ?_ ?_
                rotate_left
                · intro w'
                  go_simp
                  with_reducible rfl
                rotate_left
                · simp only [Act.put, List.setIfInBounds_toArray, List.set_cons_zero, List.set_cons_succ, i64_w, i32_w]
                  rfl
                refine pure_ (i := 8) (N := some 138) (v := ?_) (a' := ?_) #[true, true, true, true, true, true, true, true, true, false, false, false, false, false, false, false, false, false] rfl rfl (by kernel_rfl) (fun _ _ _ h => h) (Or.inl ⟨by rfl, ?_⟩) ?_ ?_
                rotate_left
                · intro w'
                  go_simp
                  with_reducible rfl
                rotate_left
                · simp only [Act.put, List.setIfInBounds_toArray, List.set_cons_zero, List.set_cons_succ, i64_w, i32_w]
                  rfl
                refine pure_ (i := 9) (N := some 139) (v := undef) (a' := ?_) #[true, true, true, true, true, true, true, true, true, true, false, false, false, false, false, false, false, false] rfl rfl (by kernel_rfl) (fun _ _ _ h => h) (Or.inr ⟨by rfl, rfl⟩) ?_ ?_
                rotate_left
                · simp only [Act.put, List.setIfInBounds_toArray, List.set_cons_zero, List.set_cons_succ, i64_w, i32_w]
                  rfl
                refine pure_ (i := 10) (N := some 140) (v := undef) (a' := ?_) #[true, true, true, true, true, true, true, true, true, true, true, false, false, false, false, false, false, false] rfl rfl (by kernel_rfl) (fun _ _ _ h => h) (Or.inr ⟨by rfl, rfl⟩) ?_ ?_
                rotate_left
                · simp only [Act.put, List.setIfInBounds_toArray, List.set_cons_zero, List.set_cons_succ, i64_w, i32_w]
                  rfl
                refine pure_ (i := 11) (N := some 141) (v := undef) (a' := ?_) #[true, true, true, true, true, true, true, true, true, true, true, true, false, false, false, false, false, false] rfl rfl (by kernel_rfl) (fun _ _ _ h => h) (Or.inr ⟨by rfl, rfl⟩) ?_ ?_
                rotate_left
                · simp only [Act.put, List.setIfInBounds_toArray, List.set_cons_zero, List.set_cons_succ, i64_w, i32_w]
                  rfl
                refine pure_ (i := 12) (N := some 142) (v := undef) (a' := ?_) #[true, true, true, true, true, true, true, true, true, true, true, true, true, false, false, false, false, false] rfl rfl (by kernel_rfl) (fun _ _ _ h => h) (Or.inr ⟨by rfl, rfl⟩) ?_ ?_
                rotate_left
                · simp only [Act.put, List.setIfInBounds_toArray, List.set_cons_zero, List.set_cons_succ, i64_w, i32_w]
                  rfl
                refine pure_ (i := 13) (N := some 143) (v := undef) (a' := ?_) #[true, true, true, true, true, true, true, true, true, true, true, true, true, true, false, false, false, false] rfl rfl (by kernel_rfl) (fun _ _ _ h => h) (Or.inr ⟨by rfl, rfl⟩) ?_ ?_
                rotate_left
                · simp only [Act.put, List.setIfInBounds_toArray, List.set_cons_zero, List.set_cons_succ, i64_w, i32_w]
                  rfl
                refine pure_ (i := 14) (N := some 144) (v := undef) (a' := ?_) #[true, true, true, true, true, true, true, true, true, true, true, true, true, true, true, false, false, false] rfl rfl (by kernel_rfl) (fun _ _ _ h => h) (Or.inr ⟨by rfl, rfl⟩) ?_ ?_
                rotate_left
                · simp only [Act.put, List.setIfInBounds_toArray, List.set_cons_zero, List.set_cons_succ, i64_w, i32_w]
                  rfl
                refine pure_ (i := 15) (N := some 145) (v := undef) (a' := ?_) #[true, true, true, true, true, true, true, true, true, true, true, true, true, true, true, true, false, false] rfl rfl (by kernel_rfl) (fun _ _ _ h => h) (Or.inr ⟨by rfl, rfl⟩) ?_ ?_
                rotate_left
                · simp only [Act.put, List.setIfInBounds_toArray, List.set_cons_zero, List.set_cons_succ, i64_w, i32_w]
                  rfl
                refine pure_ (i := 16) (N := some 146) (v := ?_) (a' := ?_) #[true, true, true, true, true, true, true, true, true, true, true, true, true, true, true, true, true, false] rfl rfl (by kernel_rfl) (fun _ _ _ h => h) (Or.inl ⟨by rfl, ?_⟩) ?_ ?_
                rotate_left
                · intro w'
                  go_simp
                  with_reducible rfl
                rotate_left
                · simp only [Act.put, List.setIfInBounds_toArray, List.set_cons_zero, List.set_cons_succ, i64_w, i32_w]
                  rfl
                refine pure_ (i := 17) (N := some 21) (v := ?_) (a' := ?_) #[true, true, true, true, true, true, true, true, true, true, true, true, true, true, true, true, true, true] rfl rfl (by kernel_rfl) (fun _ _ _ h => h) (Or.inl ⟨by rfl, ?_⟩) ?_ ?_
                rotate_left
                · intro w'
                  go_simp
                  with_reducible rfl
                rotate_left
                · simp only [Act.put, List.setIfInBounds_toArray, List.set_cons_zero, List.set_cons_succ, i64_w, i32_w]
                  rfl
                refine done_ (by kernel_rfl) ?_
                go_wp2
                go_meet
                case rel => exact ⟨rfl, HB7⟩
            | true =>
              by_cases hpd : p1.v.dur = d
              · have bpd : (p1.v.dur != d) = false := bne_eq_false_iff_eq.2 hpd
                clear hpd
                refine start_ (n := 18) (S := fun w' => w'.cell? ⟨ob, 0, none⟩ = some (.slice p1.A p1.v.nums.length p1.c) ∧ w'.cell? ⟨ob, 1, none⟩ = some (.string p1.v.text) ∧ w'.cell? ⟨ob, 3, none⟩ = some (.int .i64 p1.v.dur) ∧ w'.cell? (ad1.add (i * 2)) = some (.slice Ay y.f0.length cy) ∧ w'.cell? ⟨(ad1.add (i * 2)).block, (ad1.add (i * 2)).off + 1, none⟩ = some (.string y.f1) ∧ w'.cell? (ad2.add i) = some (.int .i64 d)) (ds := ([] : List Nat)) #[false, false, false, false, false, false, false, false, false, false, false, false, false, false, false, false, false, false] (by kernel_rfl) rfl rfl (HS6.out _ (below_drew1 (Below.refl _ _))) (fun hHeld => ?_)
                refine pure_ (i := 0) (N := some 130) (v := ?_) (a' := ?_) #[true, false, false, false, false, false, false, false, false, false, false, false, false, false, false, false, false, false] rfl rfl (by kernel_rfl) (fun _ _ _ h => h) (Or.inl ⟨by rfl, ?_⟩) ?_ ?_
                rotate_left
                · intro w'
                  go_simp
                  with_reducible rfl
                rotate_left
                · simp only [Act.put, List.setIfInBounds_toArray, List.set_cons_zero, List.set_cons_succ, i64_w, i32_w]
                  rfl
                refine take_ (i := 1) (N := some 131) (v := ?_) (a' := ?_) #[true, true, false, false, false, false, false, false, false, false, false, false, false, false, false, false, false, false] rfl rfl (by kernel_rfl) (fun _ _ _ h => h) (Or.inl ⟨by rfl, ?_⟩) hHeld ?_ ?_
                rotate_left
                · rintro w' ⟨s0_, s1_, s2_, s3_, s4_, s5_⟩
                  go_simp
                  with_reducible rfl
                rotate_left
                · simp only [Act.put, List.setIfInBounds_toArray, List.set_cons_zero, List.set_cons_succ, i64_w, i32_w]
                  rfl
                refine pure_ (i := 2) (N := some 132) (v := ?_) (a' := ?_) #[true, true, true, false, false, false, false, false, false, false, false, false, false, false, false, false, false, false] rfl rfl (by kernel_rfl) (fun _ _ _ h => h) (Or.inl ⟨by rfl, ?_⟩) ?_ ?_
                rotate_left
                · intro w'
                  go_simp
                  with_reducible rfl
                rotate_left
                · simp only [Act.put, List.setIfInBounds_toArray, List.set_cons_zero, List.set_cons_succ, i64_w, i32_w]
                  rfl
                refine pure_ (i := 3) (N := some 133) (v := ?_) (a' := ?_) #[true, true, true, true, false, false, false, false, false, false, false, false, false, false, false, false, false, false] rfl rfl (by kernel_rfl) (fun _ _ _ h => h) (Or.inl ⟨by rfl, ?_⟩) ?_ ?_
                rotate_left
                · intro w'
                  go_simp
                  with_reducible rfl
                rotate_left
                · simp only [Act.put, List.setIfInBounds_toArray, List.set_cons_zero, List.set_cons_succ, i64_w, i32_w]
                  rfl
                refine pure_ (i := 4) (N := some 134) (v := ?_) (a' := ?_) #[true, true, true, true, true, false, false, false, false, false, false, false, false, false, false, false, false, false] rfl rfl (by kernel_rfl) (fun _ _ _ h => h) (Or.inl ⟨by rfl, ?_⟩) ?_ ?_
                rotate_left
                · intro w'
                  go_simp
                  with_reducible rfl
                rotate_left
                · simp only [Act.put, List.setIfInBounds_toArray, List.set_cons_zero, List.set_cons_succ, i64_w, i32_w]
                  rfl
                refine take_ (i := 5) (N := some 135) (v := ?_) (a' := ?_) #[true, true, true, true, true, true, false, false, false, false, false, false, false, false, false, false, false, false] rfl rfl (by kernel_rfl) (fun _ _ _ h => h) (Or.inl ⟨by rfl, ?_⟩) hHeld ?_ ?_
                rotate_left
                · rintro w' ⟨s0_, s1_, s2_, s3_, s4_, s5_⟩
                  go_simp
                  with_reducible rfl
                rotate_left
                · simp only [Act.put, List.setIfInBounds_toArray, List.set_cons_zero, List.set_cons_succ, i64_w, i32_w]
                  rfl
                refine one_ (i := 6) (N := some 136) #[true, true, true, true, true, true, true, false, false, false, false, false, false, false, false, false, false, false] rfl rfl (by kernel_rfl) (by decide) (fun K hK => ?_)
                refine goes_ Try.func12 (by kernel_rfl) rfl #[.agg #[.slice p1.A p1.v.nums.length p1.c, .string p1.v.text], .agg #[.slice Ay y.f0.length cy, .string y.f1]] (by rfl) rfl rfl (by (try simp only [List.map_toArray, List.map_cons, List.map_nil]); first | done | rfl) ?_
                refine (eqv_calls p1.A p1.c p1.v.nums p1.v.text Ay cy y.f0 y.f1 _ (Kd.C_below HKV.out.2 (below_drew1 HBW6.out)) HKV.out.1 (Kd.C_below HYC.out (below_drew1 HBW6.out)) HCY.out).mono ?_
                rintro e w7 ⟨rfl, hb7⟩
                refine ⟨_, rfl, ?_⟩
                have HB7 := Aside0.mk ((below_drew1 (Below.refl W6.heap.size W6)).trans hb7)
                clear hb7
                rw [HVE.out]
                refine hK.out _ _ (HS6.out _ HB7.out) (fun hHeld => ?_)
                clear hK K
                refine norm_ (a' := ?_) ?_ ?_
                rotate_left
                · show Act.put _ (some 136) _ = _
                  simp only [Act.put, List.setIfInBounds_toArray, List.set_cons_zero, List.set_cons_succ, i64_w, i32_w]
                  rfl
                refine pure_ (i := 7) (N := some 137) (v := ?_) (a' := ?_) #[true, true, true, true, true, true, true, true, false, false, false, false, false, false, false, false, false, false] rfl rfl (by kernel_rfl) (fun _ _ _ h => h) (Or.inl ⟨by rfl, ?_⟩) ?_ ?_
                rotate_left
                · intro w'
                  go_simp
                  with_reducible rfl
                rotate_left
                · simp only [Act.put, List.setIfInBounds_toArray, List.set_cons_zero, List.set_cons_succ, i64_w, i32_w]
                  rfl
                refine pure_ (i := 8) (N := some 138) (v := ?_) (a' := ?_) #[true, true, true, true, true, true, true, true, true, false, false, false, false, false, false, false, false, false] rfl rfl (by kernel_rfl) (fun _ _ _ h => h) (Or.inl ⟨by rfl, ?_⟩) ?_ ?_
                rotate_left
                · intro w'
                  go_simp
                  with_reducible rfl
                rotate_left
                · simp only [Act.put, List.setIfInBounds_toArray, List.set_cons_zero, List.set_cons_succ, i64_w, i32_w]
                  rfl
                refine pure_ (i := 9) (N := some 139) (v := ?_) (a' := ?_) #[true, true, true, true, true, true, true, true, true, true, false, false, false, false, false, false, false, false] rfl rfl (by kernel_rfl) (fun _ _ _ h => h) (Or.inl ⟨by rfl, ?_⟩) ?_ ?_
                rotate_left
                · intro w'
                  go_simp
                  with_reducible rfl
                rotate_left
                · simp only [Act.put, List.setIfInBounds_toArray, List.set_cons_zero, List.set_cons_succ, i64_w, i32_w]
                  rfl
                refine take_ (i := 10) (N := some 140) (v := ?_) (a' := ?_) #[true, true, true, true, true, true, true, true, true, true, true, false, false, false, false, false, false, false] rfl rfl (by kernel_rfl) (fun _ _ _ h => h) (Or.inl ⟨by rfl, ?_⟩) hHeld ?_ ?_
                rotate_left
                · rintro w' ⟨s0_, s1_, s2_, s3_, s4_, s5_⟩
                  go_simp
                  with_reducible rfl
                rotate_left
                · simp only [Act.put, List.setIfInBounds_toArray, List.set_cons_zero, List.set_cons_succ, i64_w, i32_w]
                  rfl
                refine pure_ (i := 11) (N := some 141) (v := ?_) (a' := ?_) #[true, true, true, true, true, true, true, true, true, true, true, true, false, false, false, false, false, false] rfl rfl (by kernel_rfl) (fun _ _ _ h => h) (Or.inl ⟨by rfl, ?_⟩) ?_ ?_
                rotate_left
                · intro w'
                  go_simp
                  with_reducible rfl
                rotate_left
                · simp only [Act.put, List.setIfInBounds_toArray, List.set_cons_zero, List.set_cons_succ, i64_w, i32_w]
                  rfl
                refine pure_ (i := 12) (N := some 142) (v := ?_) (a' := ?_) #[true, true, true, true, true, true, true, true, true, true, true, true, true, false, false, false, false, false] rfl rfl (by kernel_rfl) (fun _ _ _ h => h) (Or.inl ⟨by rfl, ?_⟩) ?_ ?_
                rotate_left
                · intro w'
                  go_simp
                  with_reducible rfl
                rotate_left
                · simp only [Act.put, List.setIfInBounds_toArray, List.set_cons_zero, List.set_cons_succ, i64_w, i32_w]
                  rfl
                refine pure_ (i := 13) (N := some 143) (v := ?_) (a' := ?_) #[true, true, true, true, true, true, true, true, true, true, true, true, true, true, false, false, false, false] rfl rfl (by kernel_rfl) (fun _ _ _ h => h) (Or.inl ⟨by rfl, ?_⟩) ?_ ?_
                rotate_left
                · intro w'
                  go_simp
                  with_reducible rfl
                rotate_left
                · simp only [Act.put, List.setIfInBounds_toArray, List.set_cons_zero, List.set_cons_succ, i64_w, i32_w]
                  rfl
                refine take_ (i := 14) (N := some 144) (v := ?_) (a' := ?_) #[true, true, true, true, true, true, true, true, true, true, true, true, true, true, true, false, false, false] rfl rfl (by kernel_rfl) (fun _ _ _ h => h) (Or.inl ⟨by rfl, ?_⟩) hHeld ?_ ?_
                rotate_left
                · rintro w' ⟨s0_, s1_, s2_, s3_, s4_, s5_⟩
                  go_simp
                  with_reducible rfl
                rotate_left
                · simp only [Act.put, List.setIfInBounds_toArray, List.set_cons_zero, List.set_cons_succ, i64_w, i32_w]
                  rfl
                refine pure_ (i := 15) (N := some 145) (v := ?_) (a' := ?_) #[true, true, true, true, true, true, true, true, true, true, true, true, true, true, true, true, false, false] rfl rfl (by kernel_rfl) (fun _ _ _ h => h) (Or.inl ⟨by rfl, ?_⟩) ?_ ?_
                rotate_left
                · intro w'
                  go_simp
                  with_reducible rfl
                rotate_left
                · simp only [Act.put, List.setIfInBounds_toArray, List.set_cons_zero, List.set_cons_succ, i64_w, i32_w]
                  rfl
                refine pure_ (i := 16) (N := some 146) (v := ?_) (a' := ?_) #[true, true, true, true, true, true, true, true, true, true, true, true, true, true, true, true, true, false] rfl rfl (by kernel_rfl) (fun _ _ _ h => h) (Or.inl ⟨by rfl, ?_⟩) ?_ ?_
                rotate_left
                · intro w'
                  go_simp
                  with_reducible rfl
                rotate_left
                · simp only [Act.put, List.setIfInBounds_toArray, List.set_cons_zero, List.set_cons_succ, i64_w, i32_w]
                  rfl
                refine pure_ (i := 17) (N := some 21) (v := ?_) (a' := ?_) #[true, true, true, true, true, true, true, true, true, true, true, true, true, true, true, true, true, true] rfl rfl (by kernel_rfl) (fun _ _ _ h => h) (Or.inl ⟨by rfl, ?_⟩) ?_ ?_
                rotate_left
                · intro w'
                  go_simp
                  with_reducible rfl
                rotate_left
                · simp only [Act.put, List.setIfInBounds_toArray, List.set_cons_zero, List.set_cons_succ, i64_w, i32_w]
                  rfl
                refine done_ (by kernel_rfl) ?_
                go_wp2
                go_meet
                case rel => exact ⟨by rw [bpd]; rfl, HB7⟩
              · have bpd : (p1.v.dur != d) = true := bne_iff_ne.2 hpd
                clear hpd
                refine start_ (n := 18) (S := fun w' => w'.cell? ⟨ob, 0, none⟩ = some (.slice p1.A p1.v.nums.length p1.c) ∧ w'.cell? ⟨ob, 1, none⟩ = some (.string p1.v.text) ∧ w'.cell? ⟨ob, 3, none⟩ = some (.int .i64 p1.v.dur) ∧ w'.cell? (ad1.add (i * 2)) = some (.slice Ay y.f0.length cy) ∧ w'.cell? ⟨(ad1.add (i * 2)).block, (ad1.add (i * 2)).off + 1, none⟩ = some (.string y.f1) ∧ w'.cell? (ad2.add i) = some (.int .i64 d)) (ds := ([] : List Nat)) #[false, false, false, false, false, false, false, false, false, false, false, false, false, false, false, false, false, false] (by kernel_rfl) rfl rfl (HS6.out _ (below_drew1 (Below.refl _ _))) (fun hHeld => ?_)
                refine pure_ (i := 0) (N := some 130) (v := ?_) (a' := ?_) #[true, false, false, false, false, false, false, false, false, false, false, false, false, false, false, false, false, false] rfl rfl (by kernel_rfl) (fun _ _ _ h => h) (Or.inl ⟨by rfl, ?_⟩) ?_ ?_
                rotate_left
                · intro w'
                  go_simp
                  with_reducible rfl
                rotate_left
                · simp only [Act.put, List.setIfInBounds_toArray, List.set_cons_zero, List.set_cons_succ, i64_w, i32_w]
                  rfl
                refine take_ (i := 1) (N := some 131) (v := ?_) (a' := ?_) #[true, true, false, false, false, false, false, false, false, false, false, false, false, false, false, false, false, false] rfl rfl (by kernel_rfl) (fun _ _ _ h => h) (Or.inl ⟨by rfl, ?_⟩) hHeld ?_ ?_
                rotate_left
                · rintro w' ⟨s0_, s1_, s2_, s3_, s4_, s5_⟩
                  go_simp
                  with_reducible rfl
                rotate_left
                · simp only [Act.put, List.setIfInBounds_toArray, List.set_cons_zero, List.set_cons_succ, i64_w, i32_w]
                  rfl
                refine pure_ (i := 2) (N := some 132) (v := ?_) (a' := ?_) #[true, true, true, false, false, false, false, false, false, false, false, false, false, false, false, false, false, false] rfl rfl (by kernel_rfl) (fun _ _ _ h => h) (Or.inl ⟨by rfl, ?_⟩) ?_ ?_
                rotate_left
                · intro w'
                  go_simp
                  with_reducible rfl
                rotate_left
                · simp only [Act.put, List.setIfInBounds_toArray, List.set_cons_zero, List.set_cons_succ, i64_w, i32_w]
                  rfl
                refine pure_ (i := 3) (N := some 133) (v := ?_) (a' := ?_) #[true, true, true, true, false, false, false, false, false, false, false, false, false, false, false, false, false, false] rfl rfl (by kernel_rfl) (fun _ _ _ h => h) (Or.inl ⟨by rfl, ?_⟩) ?_ ?_
                rotate_left
                · intro w'
                  go_simp
                  with_reducible rfl
                rotate_left
                · simp only [Act.put, List.setIfInBounds_toArray, List.set_cons_zero, List.set_cons_succ, i64_w, i32_w]
                  rfl
                refine pure_ (i := 4) (N := some 134) (v := ?_) (a' := ?_) #[true, true, true, true, true, false, false, false, false, false, false, false, false, false, false, false, false, false] rfl rfl (by kernel_rfl) (fun _ _ _ h => h) (Or.inl ⟨by rfl, ?_⟩) ?_ ?_
                rotate_left
                · intro w'
                  go_simp
                  with_reducible rfl
                rotate_left
                · simp only [Act.put, List.setIfInBounds_toArray, List.set_cons_zero, List.set_cons_succ, i64_w, i32_w]
                  rfl
                refine take_ (i := 5) (N := some 135) (v := ?_) (a' := ?_) #[true, true, true, true, true, true, false, false, false, false, false, false, false, false, false, false, false, false] rfl rfl (by kernel_rfl) (fun _ _ _ h => h) (Or.inl ⟨by rfl, ?_⟩) hHeld ?_ ?_
                rotate_left
                · rintro w' ⟨s0_, s1_, s2_, s3_, s4_, s5_⟩
                  go_simp
                  with_reducible rfl
                rotate_left
                · simp only [Act.put, List.setIfInBounds_toArray, List.set_cons_zero, List.set_cons_succ, i64_w, i32_w]
                  rfl
                refine one_ (i := 6) (N := some 136) #[true, true, true, true, true, true, true, false, false, false, false, false, false, false, false, false, false, false] rfl rfl (by kernel_rfl) (by decide) (fun K hK => ?_)
                refine goes_ Try.func12 (by kernel_rfl) rfl #[.agg #[.slice p1.A p1.v.nums.length p1.c, .string p1.v.text], .agg #[.slice Ay y.f0.length cy, .string y.f1]] (by rfl) rfl rfl (by (try simp only [List.map_toArray, List.map_cons, List.map_nil]); first | done | rfl) ?_
                refine (eqv_calls p1.A p1.c p1.v.nums p1.v.text Ay cy y.f0 y.f1 _ (Kd.C_below HKV.out.2 (below_drew1 HBW6.out)) HKV.out.1 (Kd.C_below HYC.out (below_drew1 HBW6.out)) HCY.out).mono ?_
                rintro e w7 ⟨rfl, hb7⟩
                refine ⟨_, rfl, ?_⟩
                have HB7 := Aside0.mk ((below_drew1 (Below.refl W6.heap.size W6)).trans hb7)
                clear hb7
                rw [HVE.out]
                refine hK.out _ _ (HS6.out _ HB7.out) (fun hHeld => ?_)
                clear hK K
                refine norm_ (a' := ?_) ?_ ?_
                rotate_left
                · show Act.put _ (some 136) _ = _
                  simp only [Act.put, List.setIfInBounds_toArray, List.set_cons_zero, List.set_cons_succ, i64_w, i32_w]
                  rfl
                refine pure_ (i := 7) (N := some 137) (v := ?_) (a' := ?_) #[true, true, true, true, true, true, true, true, false, false, false, false, false, false, false, false, false, false] rfl rfl (by kernel_rfl) (fun _ _ _ h => h) (Or.inl ⟨by rfl, ?_⟩) ?_ ?_
                rotate_left
                · intro w'
                  go_simp
                  with_reducible rfl
                rotate_left
                · simp only [Act.put, List.setIfInBounds_toArray, List.set_cons_zero, List.set_cons_succ, i64_w, i32_w]
                  rfl
                refine pure_ (i := 8) (N := some 138) (v := ?_) (a' := ?_) #[true, true, true, true, true, true, true, true, true, false, false, false, false, false, false, false, false, false] rfl rfl (by kernel_rfl) (fun _ _ _ h => h) (Or.inl ⟨by rfl, ?_⟩) ?_ ?_
                rotate_left
                · intro w'
                  go_simp
                  with_reducible rfl
                rotate_left
                · simp only [Act.put, List.setIfInBounds_toArray, List.set_cons_zero, List.set_cons_succ, i64_w, i32_w]
                  rfl
                refine pure_ (i := 9) (N := some 139) (v := ?_) (a' := ?_) #[true, true, true, true, true, true, true, true, true, true, false, false, false, false, false, false, false, false] rfl rfl (by kernel_rfl) (fun _ _ _ h => h) (Or.inl ⟨by rfl, ?_⟩) ?_ ?_
                rotate_left
                · intro w'
                  go_simp
                  with_reducible rfl
                rotate_left
                · simp only [Act.put, List.setIfInBounds_toArray, List.set_cons_zero, List.set_cons_succ, i64_w, i32_w]
                  rfl
                refine take_ (i := 10) (N := some 140) (v := ?_) (a' := ?_) #[true, true, true, true, true, true, true, true, true, true, true, false, false, false, false, false, false, false] rfl rfl (by kernel_rfl) (fun _ _ _ h => h) (Or.inl ⟨by rfl, ?_⟩) hHeld ?_ ?_
                rotate_left
                · rintro w' ⟨s0_, s1_, s2_, s3_, s4_, s5_⟩
                  go_simp
                  with_reducible rfl
                rotate_left
                · simp only [Act.put, List.setIfInBounds_toArray, List.set_cons_zero, List.set_cons_succ, i64_w, i32_w]
                  rfl
                refine pure_ (i := 11) (N := some 141) (v := ?_) (a' := ?_) #[true, true, true, true, true, true, true, true, true, true, true, true, false, false, false, false, false, false] rfl rfl (by kernel_rfl) (fun _ _ _ h => h) (Or.inl ⟨by rfl, ?_⟩) ?_ ?_
                rotate_left
                · intro w'
                  go_simp
                  with_reducible rfl
                rotate_left
                · simp only [Act.put, List.setIfInBounds_toArray, List.set_cons_zero, List.set_cons_succ, i64_w, i32_w]
                  rfl
                refine pure_ (i := 12) (N := some 142) (v := ?_) (a' := ?_) #[true, true, true, true, true, true, true, true, true, true, true, true, true, false, false, false, false, false] rfl rfl (by kernel_rfl) (fun _ _ _ h => h) (Or.inl ⟨by rfl, ?_⟩) ?_ ?_
                rotate_left
                · intro w'
                  go_simp
                  with_reducible rfl
                rotate_left
                · simp only [Act.put, List.setIfInBounds_toArray, List.set_cons_zero, List.set_cons_succ, i64_w, i32_w]
                  rfl
                refine pure_ (i := 13) (N := some 143) (v := ?_) (a' := ?_) #[true, true, true, true, true, true, true, true, true, true, true, true, true, true, false, false, false, false] rfl rfl (by kernel_rfl) (fun _ _ _ h => h) (Or.inl ⟨by rfl, ?_⟩) ?_ ?_
                rotate_left
                · intro w'
                  go_simp
                  with_reducible rfl
                rotate_left
                · simp only [Act.put, List.setIfInBounds_toArray, List.set_cons_zero, List.set_cons_succ, i64_w, i32_w]
                  rfl
                refine take_ (i := 14) (N := some 144) (v := ?_) (a' := ?_) #[true, true, true, true, true, true, true, true, true, true, true, true, true, true, true, false, false, false] rfl rfl (by kernel_rfl) (fun _ _ _ h => h) (Or.inl ⟨by rfl, ?_⟩) hHeld ?_ ?_
                rotate_left
                · rintro w' ⟨s0_, s1_, s2_, s3_, s4_, s5_⟩
                  go_simp
                  with_reducible rfl
                rotate_left
                · simp only [Act.put, List.setIfInBounds_toArray, List.set_cons_zero, List.set_cons_succ, i64_w, i32_w]
                  rfl
                refine pure_ (i := 15) (N := some 145) (v := ?_) (a' := ?_) #[true, true, true, true, true, true, true, true, true, true, true, true, true, true, true, true, false, false] rfl rfl (by kernel_rfl) (fun _ _ _ h => h) (Or.inl ⟨by rfl, ?_⟩) ?_ ?_
                rotate_left
                · intro w'
                  go_simp
                  with_reducible rfl
                rotate_left
                · simp only [Act.put, List.setIfInBounds_toArray, List.set_cons_zero, List.set_cons_succ, i64_w, i32_w]
                  rfl
                refine pure_ (i := 16) (N := some 146) (v := ?_) (a' := ?_) #[true, true, true, true, true, true, true, true, true, true, true, true, true, true, true, true, true, false] rfl rfl (by kernel_rfl) (fun _ _ _ h => h) (Or.inl ⟨by rfl, ?_⟩) ?_ ?_
                rotate_left
                · intro w'
                  go_simp
                  with_reducible rfl
                rotate_left
                · simp only [Act.put, List.setIfInBounds_toArray, List.set_cons_zero, List.set_cons_succ, i64_w, i32_w]
                  rfl
                refine pure_ (i := 17) (N := some 21) (v := ?_) (a' := ?_) #[true, true, true, true, true, true, true, true, true, true, true, true, true, true, true, true, true, true] rfl rfl (by kernel_rfl) (fun _ _ _ h => h) (Or.inl ⟨by rfl, ?_⟩) ?_ ?_
                rotate_left
                · intro w'
                  go_simp
                  with_reducible rfl
                rotate_left
                · simp only [Act.put, List.setIfInBounds_toArray, List.set_cons_zero, List.set_cons_succ, i64_w, i32_w]
                  rfl
                refine done_ (by kernel_rfl) ?_
                go_wp2
                go_meet
                case rel => exact ⟨by rw [bpd]; rfl, HB7⟩
          case rest =>
            obtain ⟨rfl, hb7⟩ := hcut
            obtain ⟨df, hdf⟩ : ∃ df, (!ve || (p1.v.dur != d)) = df := ⟨_, rfl⟩
            rw [hdf]
            have HDF := Aside0.mk hdf
            have HL7 := Aside0.mk (HL6.out.below hb7.out)
            have HO7 := Aside0.mk ((hb7.out.block _ (lt_of_blk HO6.out)).trans HO6.out)
            have HR7 := Aside0.mk (show Rel st kn1 ∧ kn1[j1]? = some p1 ∧ p1.k = x ∧ kn1.length ≤ i + 1 ∧ j1 < kn1.length from ⟨hY.out.2.1, hY.out.2.2.1, hY.out.2.2.2.1, hY.out.2.2.2.2, (List.getElem?_eq_some_iff.1 hY.out.2.2.1).1⟩)
            have hrv0 : 0 ≤ st.rev := hR.out.2.2.2.1
            have hrv1 : st.rev ≤ 1000 := by have := hR.out.2.2.2.2; have := HN.out; have := HIN.out; omega
            clear hdf hb7
            go_upto_if 147 with (fail)
            go_cut [11, 12] (fun v11 v12 wx => ∃ kn2 : List Kn, v11 = .slice (some adk) kn2.length cv1 ∧ v12 = .int .i64 st'.rev ∧ Aside0 (LI w sb mb w2.heap.size st' st'.l0 st'.l1 st'.l2 kn2 (some adk) cv1 wx ∧ Rel st' kn2 ∧ kn2.length ≤ i + 1))
            case first =>
              as_aux_lemma =>
                cases df with
                | false =>
                  have hst2 := HST2.out
                  have hd2 : p1.v.dur = d ∧ ve = true := by
                    have h := HDF.out
                    cases ve with
                    | false => cases h
                    | true =>
                      refine ⟨?_, rfl⟩
                      have h2 : (p1.v.dur != d) = false := h
                      exact bne_eq_false_iff_eq.1 h2
                  rw [if_pos ⟨hd2.1, by rw [HVE.out]; exact hd2.2⟩] at hst2
                  injection hst2 with g1 g2
                  injection g2 with g2 g3
                  subst g1 g2 g3
                  clear hd2
                  go_wp2
                  go_meet
                  case rel => exact ⟨kn1, rfl, rfl, ⟨HL7.out, HR7.out.1, HR7.out.2.2.2.1⟩⟩
                | true =>
                  have hst2 := HST2.out
                  rw [if_neg (fun e => by
                    have h := HDF.out
                    have h1 := e.2
                    rw [HVE.out] at h1
                    subst h1
                    have h2 : (p1.v.dur != d) = true := h
                    exact bne_iff_ne.1 h2 e.1)] at hst2
                  injection hst2 with g1 g2
                  injection g2 with g2 g3
                  obtain ⟨M, hM⟩ : ∃ M, mx p1.v.dur d = M := ⟨_, rfl⟩
                  rw [hM] at g3
                  have hmax : ∀ ats ty, Builtin.max_ ats ty #[.int .i64 p1.v.dur, .int .i64 d] = pure (.int .i64 M) := by
                    intro ats ty
                    rw [max_two, max2_int, ← hM]
                    unfold mx
                    rfl
                  have HG3 := Aside0.mk g3
                  clear g1 g2 g3 hM
                  have HT7 := Aside0.mk (show LI w sb mb w2.heap.size st' (if 0 < 0 then bump st.rev st.l0 0 M else st.l0) (if 1 < 0 then bump st.rev st.l1 1 M else st.l1) (if 2 < 0 then bump st.rev st.l2 2 M else st.l2) kn1 (some adk) cv1 wc from HL7.out)
                  go_upto_block 4 with (fail)
                  go_cut [] (fun wx => Aside0 (LI w sb mb w2.heap.size st' (bump st.rev st.l0 0 M) (bump st.rev st.l1 1 M) (bump st.rev st.l2 2 M) kn1 (some adk) cv1 wx))
                  case first =>
                    go_wp2
                    go_loopg [150] 3 (fun kq v150 W => ∃ t : Nat, v150 = .int .i64 (t : Int) ∧ kq + t = 3 ∧ Aside0 (LI w sb mb w2.heap.size st' (if 0 < t then bump st.rev st.l0 0 M else st.l0) (if 1 < t then bump st.rev st.l1 1 M else st.l1) (if 2 < t then bump st.rev st.l2 2 M else st.l2) kn1 (some adk) cv1 W ∧ W.heap[ob]? = some (.cells #[.slice p1.A p1.v.nums.length p1.c, .string p1.v.text, .int .i64 p1.v.chg, .int .i64 p1.v.dur] 38 (0, 0))))
                    case atStart => exact ⟨0, rfl, rfl, ⟨HL7.out, HO7.out⟩⟩
                    case round =>
                      obtain ⟨t, rfl, ht, hT⟩ := hrel
                      cases gk with
                      | zero =>
                        obtain rfl : t = 3 := by omega
                        clear ht
                        go_wp2
                        go_meet
                        case rel => exact ⟨hT.out.1⟩
                      | succ k3 =>
                        have ht3 : t < 3 := by omega
                        have b3 : decide ((t : Int) < 3) = true := decide_eq_true (by omega)
                        have s0 := eq_true (show (0 : Int) ≤ (t : Int) by omega)
                        have s1 := eq_true (show (t : Int) < 3 by omega)
                        obtain ⟨_, _, _, _, _, z5⟩ := HK.out _ hT.out.1.bw
                        have y3 : wr.cell? ⟨ob, 3, none⟩ = some (.int .i64 p1.v.dur) := (cells_of_blk hT.out.2 3).trans rfl
                        have hw3 : wrap64 ((t : Int) + 1) = ((t + 1 : Nat) : Int) := by unfold wrap64; omega
                        have HW3 := Aside0.mk hw3
                        have HTT := Aside0.mk ht
                        have HT3 := Aside0.mk ht3
                        have hne : ob ≠ w2.heap.size := by
                          intro e
                          have h1 := hT.out.2
                          rw [e] at h1
                          have := h1.symm.trans hT.out.1.lx
                          simp at this
                        have HNE := Aside0.mk hne
                        obtain ⟨u, hu⟩ : ∃ u, wr.cell? ⟨w2.heap.size, t, none⟩ = some u := by
                          rw [cells_of_blk hT.out.1.lx]
                          obtain rfl | rfl | rfl : t = 0 ∨ t = 1 ∨ t = 2 := by omega
                          all_goals exact ⟨_, rfl⟩
                        have hfu := free_of_blk hT.out.1.lx t
                        clear ht ht3 hw3 hne
                        by_cases hm : (t : Int) ≤ M
                        · have bm : decide ((t : Int) ≤ M) = true := decide_eq_true hm
                          go_upto_region 36 with (fail)
                          go_quiet (fail)
                          go_wp2
                          go_roundg k3
                          case measure => omega
                          case rel =>
                            refine ⟨t + 1, by first | rfl | rw [HW3.out], by have := HTT.out; omega, ⟨(hT.out.1.below (pw_below_drewN (Below.refl _ _) _)).last t (.int .i64 (st.rev + 1)) ?_, hb_far ((Below.block (pw_below_drewN (Below.refl wr.heap.size wr) _) _ (lt_of_blk hT.out.2)).trans hT.out.2) HNE.out _⟩⟩
                            have := HT3.out
                            obtain rfl | rfl | rfl : t = 0 ∨ t = 1 ∨ t = 2 := by omega
                            all_goals (simp [bump]; omega)
                        · have bm : decide ((t : Int) ≤ M) = false := decide_eq_false hm
                          go_upto_region 36 with (fail)
                          go_quiet (fail)
                          go_wp2
                          go_roundg k3
                          case measure => omega
                          case rel =>
                            refine ⟨t + 1, by first | rfl | rw [HW3.out], by have := HTT.out; omega, ⟨?_, (Below.block (pw_below_drewN (Below.refl wr.heap.size wr) _) _ (lt_of_blk hT.out.2)).trans hT.out.2⟩⟩
                            have h2 := hT.out.1.below (pw_below_drewN (Below.refl wr.heap.size wr) nq)
                            have e0 : (if 0 < t + 1 then bump st.rev st.l0 0 M else st.l0) = (if 0 < t then bump st.rev st.l0 0 M else st.l0) := by
                              unfold bump; repeat' split
                              all_goals omega
                            have e1 : (if 1 < t + 1 then bump st.rev st.l1 1 M else st.l1) = (if 1 < t then bump st.rev st.l1 1 M else st.l1) := by
                              unfold bump; repeat' split
                              all_goals omega
                            have e2 : (if 2 < t + 1 then bump st.rev st.l2 2 M else st.l2) = (if 2 < t then bump st.rev st.l2 2 M else st.l2) := by
                              unfold bump; repeat' split
                              all_goals omega
                            rw [e0, e1, e2]
                            exact h2
                  case rest =>
                    obtain ⟨gk1, rfl⟩ := HG.out
                    have hLC := hcut.out
                    rw [show bump st.rev st.l0 0 M = st'.l0 by rw [← HG3.out], show bump st.rev st.l1 1 M = st'.l1 by rw [← HG3.out], show bump st.rev st.l2 2 M = st'.l2 by rw [← HG3.out]] at hLC
                    have hrs : st.rev + 1 = st'.rev := by rw [← HG3.out]
                    obtain ⟨ad9, had9, _, hcc9, hff9⟩ := hLC.elem j1 p1 HR7.out.2.1
                    injection had9 with had9
                    subst had9
                    simp only [add_plain] at hcc9 hff9
                    have w3c : wc.cell? ⟨gk1, j1 * 7 + 3, none⟩ = some (.slice p1.A p1.v.nums.length p1.c) := hcc9 3 _ rfl
                    have w4c : wc.cell? ⟨gk1, j1 * 7 + 4, none⟩ = some (.string p1.v.text) := hcc9 4 _ rfl
                    have w5c : wc.cell? ⟨gk1, j1 * 7 + 5, none⟩ = some (.int .i64 p1.v.chg) := hcc9 5 _ rfl
                    have w6c : wc.cell? ⟨gk1, j1 * 7 + 6, none⟩ = some (.int .i64 p1.v.dur) := hcc9 6 _ rfl
                    have w3f := hff9 3 (by decide)
                    have w4f := hff9 4 (by decide)
                    have w5f := hff9 5 (by decide)
                    have w6f := hff9 6 (by decide)
                    have HLC := Aside0.mk hLC
                    clear hLC hcc9 hff9
                    go_upto_region 39 with (fail)
                    refine start_ (n := 15) (S := fun w' => w'.cell? (ad1.add (i * 2)) = some (.slice Ay y.f0.length cy) ∧ w'.cell? ⟨(ad1.add (i * 2)).block, (ad1.add (i * 2)).off + 1, none⟩ = some (.string y.f1) ∧ w'.cell? (ad2.add i) = some (.int .i64 d)) (ds := [14]) #[false, false, false, false, false, false, false, false, false, false, false, false, false, false, false] (by kernel_rfl) rfl rfl ((HK.out _ (below_drew1 HLC.out.bw)).2.2.2) (fun hHeld => ?_)
                    refine pure_ (i := 0) (N := some 166) (v := ?_) (a' := ?_) #[true, false, false, false, false, false, false, false, false, false, false, false, false, false, false] rfl rfl (by kernel_rfl) (fun _ _ _ h => h) (Or.inl ⟨by rfl, ?_⟩) ?_ ?_
                    rotate_left
                    · intro w'
                      go_simp
                      with_reducible rfl
                    rotate_left
                    · simp only [Act.put, List.setIfInBounds_toArray, List.set_cons_zero, List.set_cons_succ, i64_w, i32_w]
                      rfl
                    refine pure_ (i := 1) (N := some 167) (v := ?_) (a' := ?_) #[true, true, false, false, false, false, false, false, false, false, false, false, false, false, false] rfl rfl (by kernel_rfl) (fun _ _ _ h => h) (Or.inl ⟨by rfl, ?_⟩) ?_ ?_
                    rotate_left
                    · intro w'
                      go_simp
                      with_reducible rfl
                    rotate_left
                    · simp only [Act.put, List.setIfInBounds_toArray, List.set_cons_zero, List.set_cons_succ, i64_w, i32_w]
                      rfl
                    refine pure_ (i := 2) (N := some 168) (v := ?_) (a' := ?_) #[true, true, true, false, false, false, false, false, false, false, false, false, false, false, false] rfl rfl (by kernel_rfl) (fun _ _ _ h => h) (Or.inl ⟨by rfl, ?_⟩) ?_ ?_
                    rotate_left
                    · intro w'
                      go_simp
                      with_reducible rfl
                    rotate_left
                    · simp only [Act.put, List.setIfInBounds_toArray, List.set_cons_zero, List.set_cons_succ, i64_w, i32_w]
                      rfl
                    refine pure_ (i := 3) (N := some 169) (v := ?_) (a' := ?_) #[true, true, true, true, false, false, false, false, false, false, false, false, false, false, false] rfl rfl (by kernel_rfl) (fun _ _ _ h => h) (Or.inl ⟨by rfl, ?_⟩) ?_ ?_
                    rotate_left
                    · intro w'
                      go_simp
                      with_reducible rfl
                    rotate_left
                    · simp only [Act.put, List.setIfInBounds_toArray, List.set_cons_zero, List.set_cons_succ, i64_w, i32_w]
                      rfl
                    refine pure_ (i := 4) (N := some 170) (v := ?_) (a' := ?_) #[true, true, true, true, true, false, false, false, false, false, false, false, false, false, false] rfl rfl (by kernel_rfl) (fun _ _ _ h => h) (Or.inl ⟨by rfl, ?_⟩) ?_ ?_
                    rotate_left
                    · intro w'
                      go_simp
                      with_reducible rfl
                    rotate_left
                    · simp only [Act.put, List.setIfInBounds_toArray, List.set_cons_zero, List.set_cons_succ, i64_w, i32_w]
                      rfl
                    refine take_ (i := 5) (N := some 171) (v := ?_) (a' := ?_) #[true, true, true, true, true, true, false, false, false, false, false, false, false, false, false] rfl rfl (by kernel_rfl) (fun _ _ _ h => h) (Or.inl ⟨by rfl, ?_⟩) hHeld ?_ ?_
                    rotate_left
                    · rintro w' ⟨s0_, s1_, s2_⟩
                      go_simp
                      with_reducible rfl
                    rotate_left
                    · simp only [Act.put, List.setIfInBounds_toArray, List.set_cons_zero, List.set_cons_succ, i64_w, i32_w]
                      rfl
                    refine pure_ (i := 6) (N := some 172) (v := ?_) (a' := ?_) #[true, true, true, true, true, true, true, false, false, false, false, false, false, false, false] rfl rfl (by kernel_rfl) (fun _ _ _ h => h) (Or.inl ⟨by rfl, ?_⟩) ?_ ?_
                    rotate_left
                    · intro w'
                      go_simp
                      with_reducible rfl
                    rotate_left
                    · simp only [Act.put, List.setIfInBounds_toArray, List.set_cons_zero, List.set_cons_succ, i64_w, i32_w]
                      rfl
                    refine pure_ (i := 7) (N := some 173) (v := ?_) (a' := ?_) #[true, true, true, true, true, true, true, true, false, false, false, false, false, false, false] rfl rfl (by kernel_rfl) (fun _ _ _ h => h) (Or.inl ⟨by rfl, ?_⟩) ?_ ?_
                    rotate_left
                    · intro w'
                      go_simp
                      with_reducible rfl
                    rotate_left
                    · simp only [Act.put, List.setIfInBounds_toArray, List.set_cons_zero, List.set_cons_succ, i64_w, i32_w]
                      rfl
                    refine pure_ (i := 8) (N := some 174) (v := ?_) (a' := ?_) #[true, true, true, true, true, true, true, true, true, false, false, false, false, false, false] rfl rfl (by kernel_rfl) (fun _ _ _ h => h) (Or.inl ⟨by rfl, ?_⟩) ?_ ?_
                    rotate_left
                    · intro w'
                      go_simp
                      with_reducible rfl
                    rotate_left
                    · simp only [Act.put, List.setIfInBounds_toArray, List.set_cons_zero, List.set_cons_succ, i64_w, i32_w]
                      rfl
                    refine pure_ (i := 9) (N := some 175) (v := ?_) (a' := ?_) #[true, true, true, true, true, true, true, true, true, true, false, false, false, false, false] rfl rfl (by kernel_rfl) (fun _ _ _ h => h) (Or.inl ⟨by rfl, ?_⟩) ?_ ?_
                    rotate_left
                    · intro w'
                      go_simp
                      with_reducible rfl
                    rotate_left
                    · simp only [Act.put, List.setIfInBounds_toArray, List.set_cons_zero, List.set_cons_succ, i64_w, i32_w]
                      rfl
                    refine take_ (i := 10) (N := some 176) (v := ?_) (a' := ?_) #[true, true, true, true, true, true, true, true, true, true, true, false, false, false, false] rfl rfl (by kernel_rfl) (fun _ _ _ h => h) (Or.inl ⟨by rfl, ?_⟩) hHeld ?_ ?_
                    rotate_left
                    · rintro w' ⟨s0_, s1_, s2_⟩
                      go_simp
                      with_reducible rfl
                    rotate_left
                    · simp only [Act.put, List.setIfInBounds_toArray, List.set_cons_zero, List.set_cons_succ, i64_w, i32_w]
                      rfl
                    refine pure_ (i := 11) (N := some 177) (v := ?_) (a' := ?_) #[true, true, true, true, true, true, true, true, true, true, true, true, false, false, false] rfl rfl (by kernel_rfl) (fun _ _ _ h => h) (Or.inl ⟨by rfl, ?_⟩) ?_ ?_
                    rotate_left
                    · intro w'
                      go_simp
                      with_reducible rfl
                    rotate_left
                    · simp only [Act.put, List.setIfInBounds_toArray, List.set_cons_zero, List.set_cons_succ, i64_w, i32_w]
                      rfl
                    refine pure_ (i := 12) (N := some 178) (v := ?_) (a' := ?_) #[true, true, true, true, true, true, true, true, true, true, true, true, true, false, false] rfl rfl (by kernel_rfl) (fun _ _ _ h => h) (Or.inl ⟨by rfl, ?_⟩) ?_ ?_
                    rotate_left
                    · intro w'
                      go_simp
                      with_reducible rfl
                    rotate_left
                    · simp only [Act.put, List.setIfInBounds_toArray, List.set_cons_zero, List.set_cons_succ, i64_w, i32_w]
                      rfl
                    refine pure_ (i := 13) (N := some 179) (v := ?_) (a' := ?_) #[true, true, true, true, true, true, true, true, true, true, true, true, true, true, false] rfl rfl (by kernel_rfl) (fun _ _ _ h => h) (Or.inl ⟨by rfl, ?_⟩) ?_ ?_
                    rotate_left
                    · intro w'
                      go_simp
                      with_reducible rfl
                    rotate_left
                    · simp only [Act.put, List.setIfInBounds_toArray, List.set_cons_zero, List.set_cons_succ, i64_w, i32_w]
                      rfl
                    refine last_ (i := 14) (N := none) #[true, true, true, true, true, true, true, true, true, true, true, true, true, true, true] rfl rfl (by kernel_rfl) (by decide) (fun K hK => ?_)
                    refine skip_ (w1 := ?_) (by rfl) rfl ?_ ?_
                    rotate_left
                    · go_simp
                      rfl
                    refine hK.out _ _ (done_ (by kernel_rfl) ?_)
                    clear hK K
                    have hfin := (HLC.out.put j1 p1 HR7.out.2.1 Ay cy ⟨y.f0, y.f1, st'.rev, d⟩ ⟨HCY.out, HYC.out⟩).below (below_drew1 (Below.refl _ _))
                    obtain ⟨W9, hW9⟩ : ∃ W9, ((((wc.setCell ⟨gk1, j1 * 7 + 3, none⟩ (.slice Ay y.f0.length cy)).setCell ⟨gk1, j1 * 7 + 4, none⟩ (.string y.f1)).setCell ⟨gk1, j1 * 7 + 5, none⟩ (.int .i64 st'.rev)).setCell ⟨gk1, j1 * 7 + 6, none⟩ (.int .i64 d)).drew = W9 := ⟨_, rfl⟩
                    have HF9 := Aside0.mk (show LI w sb mb w2.heap.size st' st'.l0 st'.l1 st'.l2 (kn1.set j1 ⟨p1.k, Ay, cy, ⟨y.f0, y.f1, st'.rev, d⟩⟩) (some ⟨gk1, 0, none⟩) cv1 W9 from by rw [← hW9]; exact hfin)
                    simp only [Nat.add_assoc, Nat.reduceAdd]
                    rw [hW9]
                    have HRS := Aside0.mk hrs
                    clear hW9 hfin hrs hHeld w3c w4c w5c w6c w3f w4f w5f w6f
                    go_wp2
                    go_meet
                    case rel =>
                      have hm' : st'.m = mset st.m x ⟨y.f0, y.f1, st'.rev, d⟩ := by rw [← HG3.out]
                      have hp1 := HR7.out.2.1
                      have hkx := HR7.out.2.2.1
                      have hjl := HR7.out.2.2.2.2
                      have hks : (kn1.set j1 ⟨p1.k, Ay, cy, ⟨y.f0, y.f1, st'.rev, d⟩⟩).map (·.k) = kn1.map (·.k) := by
                        rw [List.map_set]
                        refine List.ext_getElem? (fun t => ?_)
                        rw [List.getElem?_set]
                        by_cases c : j1 = t
                        · subst c
                          rw [if_pos rfl, if_pos (by simpa using hjl), List.getElem?_map, hp1]
                          rfl
                        · rw [if_neg c]
                      refine ⟨kn1.set j1 ⟨p1.k, Ay, cy, ⟨y.f0, y.f1, st'.rev, d⟩⟩, by rw [List.length_set], by rw [HRS.out], ⟨HF9.out, ⟨by rw [hks]; exact HR7.out.1.1, fun z => ?_⟩, by rw [List.length_set]; exact HR7.out.2.2.2.1⟩⟩
                      rw [hm', getP_mset, getP_set (q := ⟨p1.k, Ay, cy, ⟨y.f0, y.f1, st'.rev, d⟩⟩) HR7.out.1.1 hp1 rfl, hkx]
                      by_cases c : x = z
                      · rw [if_pos c, if_pos c]
                      · rw [if_neg c, if_neg c]; exact HR7.out.1.2 z
            case rest =>
              obtain ⟨kn2, rfl, rfl, hZ⟩ := hcut
              have hst2 := HST2.out
              have her : er = 0 ∧ ch = df := by
                have h := HDF.out
                by_cases e : p1.v.dur = d ∧ valEq p1.v.nums p1.v.text y.f0 y.f1 = true
                · rw [if_pos e] at hst2
                  injection hst2 with g1 g2
                  injection g2 with g2 g3
                  refine ⟨g2.symm, ?_⟩
                  rw [← g1, ← h]
                  have h1 := e.2
                  rw [HVE.out] at h1
                  subst h1
                  have h2 : (p1.v.dur != d) = false := bne_eq_false_iff_eq.2 e.1
                  rw [h2]; rfl
                · rw [if_neg e] at hst2
                  injection hst2 with g1 g2
                  injection g2 with g2 g3
                  refine ⟨g2.symm, ?_⟩
                  rw [← g1, ← h]
                  cases ve with
                  | false => rfl
                  | true =>
                    have h2 : (p1.v.dur != d) = true := bne_iff_ne.2 (fun e2 => e ⟨e2, HVE.out⟩)
                    rw [h2]; rfl
              obtain ⟨rfl, rfl⟩ := her
              have hrb : 0 ≤ st'.rev ∧ st'.rev ≤ (i : Int) + 1 := by
                have h1 := hR.out.2.2.2
                by_cases e : p1.v.dur = d ∧ valEq p1.v.nums p1.v.text y.f0 y.f1 = true
                · rw [if_pos e] at hst2
                  injection hst2 with g1 g2
                  injection g2 with g2 g3
                  rw [← g3]; omega
                · rw [if_neg e] at hst2
                  injection hst2 with g1 g2
                  injection g2 with g2 g3
                  rw [← g3]
                  show 0 ≤ st.rev + 1 ∧ st.rev + 1 ≤ (i : Int) + 1
                  omega
              have HRB := Aside0.mk hrb
              have hbb : (ch != ch) = false := by simp
              clear hst2 hrb
              go_wp2_with (go_at_call 13; refine (revision_calls hZ.out.1.si).mono ?_; rintro e w9 ⟨rfl, rfl⟩)
              go_roundg k1
              case measure => omega
              case rel => exact ⟨i + 1, st', kn2, some adk, cv1, rfl, rfl, by first | rfl | rw [HW.out], by have := HII.out; omega, ⟨hZ.out.1, hZ.out.2.1, hZ.out.2.2, HRB.out.1, by have := HRB.out.2; omega⟩⟩
end Go.Proofs.Ytogpjenmfgpfiaa.QInputsScript
