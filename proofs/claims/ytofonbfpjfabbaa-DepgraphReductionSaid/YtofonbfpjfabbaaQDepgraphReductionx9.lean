-- Written by gen.py (this repo's wip/), which runs the kit's print.py with more arms. Lean checks it.
import Derived.Test.YtofonbfpjfabbaaQDepgraphReductionx0
import Derived.Test.YtofonbfpjfabbaaQDepgraphReductionx1
import Derived.Test.YtofonbfpjfabbaaQDepgraphReductionx5
import Derived.Test.YtofonbfpjfabbaaQDepgraphReductionx8
namespace Go.Proofs.Ytofonbfpjfabbaa.QDepgraphReduction
open Go.RowKit Go.Proofs.YtofonbfpjfabbaaW.PrintWords Go.Proofs.YtofonbfpjfabbaaW.PrintLast Go.Proofs.YtofonbfpjfabbaaW.PrintMore
attribute [local go_sem] max2_int min2_int max_two min_two max_three min_three max_four min_four   -- for this text's walks alone
set_option linter.unusedVariables false
set_option linter.unusedSimpArgs false

section
open Go.Lib Go.Proofs.Ytofonbfpjfabbaa.Hand Go.Proofs.Ytofonbfpjfabbaa.Aid
theorem lessKey_f (a b : S24) : glossatorref3_LessKey.f a.f0 a.f1 a.f2 b.f0 b.f1 b.f2 = some (ltK a b) := by
  unfold glossatorref3_LessKey.f ltK
  by_cases h0 : a.f0 = b.f0
  · rw [if_pos h0, if_pos h0]
    by_cases h1 : a.f1 = b.f1
    · rw [if_pos h1, if_pos h1]
    · rw [if_neg h1, if_neg h1]
  · rw [if_neg h0, if_neg h0]
theorem own_headK {e base : Nat} {ok : Nat → Prop} {W : World} {A : Option Addr} {n c : Nat} {xs : List S24} (h : Kd.R k24 e W base ok (.slice A n c) xs) : (A = none ∧ n = 0 ∧ c = 0 ∧ xs = []) ∨ ∃ g, A = some ⟨g, 0, none⟩ ∧ n ≤ c ∧ base ≤ g ∧ g < W.heap.size := by
  obtain ⟨_, inner, ⟨h1, h2⟩, _⟩ := h
  rcases h2 with ⟨h2, h3⟩ | ⟨g, cap, cur, h2, hb, hg, hc, _⟩
  · injection h2 with a b c'
    subst a; subst b; subst c'
    exact .inl ⟨rfl, rfl, rfl, List.eq_nil_of_length_eq_zero h3⟩
  · injection h2 with a b c'
    subst a; subst b; subst c'
    exact .inr ⟨g, rfl, hc, hb, (Array.getElem?_eq_some_iff.1 hg).1⟩
theorem grown_belowK {W W' : World} (h : W.grownBy W' none) : Below W.heap.size W W' := (Chg.of_grown (S := fun _ => False) h (fun k e => by cases e)).to_below (fun _ _ e => e.elim) (Nat.le_refl _)
theorem R_oneK {W : World} {k base : Nat} {x : S24} (h : W.heap[k]? = some (.cells (rowK x).toArray 24 (0, 0))) (hb : base ≤ k) : Kd.R k24 24 W base (fun _ => True) (.slice (some ⟨k, 0, none⟩) 1 1) [x] :=
  R24_of_own ⟨rfl, .inr ⟨k, 1, (rowK x).toArray, rfl, hb, h, by simp, by decide, rfl, by simp [rowsK, rowK]⟩⟩ (fun _ _ => trivial)
theorem insK_at {res : List S24} {x : S24} {j : Nat} (hj : j ≤ res.length) (h1 : ∀ m, m < j → ∀ y, res[m]? = some y → ltK y x = true) (h2 : ∀ y, res[j]? = some y → ltK y x = false) :
    insK ltK res x = if res[j]? ≠ some x then res.take j ++ x :: res.drop j else res := by
  obtain ⟨e1, e2⟩ := tw_lenG (fun y => ltK y x) res j hj h1 h2
  unfold insK
  rw [e1, e2, List.length_take, Nat.min_eq_left hj]
attribute [local go_sem high] eqA24
set_option maxRecDepth 100000 in
set_option maxHeartbeats 16000000 in
theorem sortKeys_calls (A0 : Option Addr) (c0 : Nat) (l0 : List S24) (w : World) (hr0 : Kd.C k24 w A0 l0.length l0) (hlim : l0.length < 1000000) :
    Calls Try.prog 24 #[.slice A0 l0.length c0] w fun e w' => ∃ v, e = .returned v ∧ Kd.R k24 24 w' w.heap.size (fun _ => True) v (sortK ltK l0) ∧ Below w.heap.size w w' := by
  have HR0 := Aside0.mk hr0
  have HLIM := Aside0.mk hlim
  clear hr0 hlim
  go_enter Try.func24, Try.ntmps24
  go_wp2
  go_loopg [3, 9] l0.length (fun kq v3 v9 W => ∃ (i : Nat) (res : List S24) (A1 : Option Addr) (c1 : Nat), v3 = .slice A1 res.length c1 ∧ v9 = .int .i64 (i : Int) ∧ kq + i = l0.length ∧ Aside0 (Kd.R k24 24 W w.heap.size (fun _ => True) (.slice A1 res.length c1) res ∧ Below w.heap.size w W ∧ res.length ≤ i ∧ res = sortK ltK (l0.take i)))
  case atStart => exact ⟨0, [], none, 0, rfl, rfl, by omega, ⟨Kd.R_nil _ _ _ _ _, Below.refl _ _, Nat.le_refl _, rfl⟩⟩
  case round =>
    obtain ⟨i, res, A1, c1, rfl, rfl, hi, hA⟩ := hrel
    cases gk with
    | zero =>
      have hb : decide ((i : Int) < (l0.length : Int)) = false := decide_eq_false (by omega)
      have hb' : decide (i < l0.length) = false := decide_eq_false (by omega)
      have HIL := Aside0.mk (show i = l0.length by omega)
      clear hi
      go_wp2
      go_ret
      refine ⟨_, rfl, ?_, hA.out.2.1⟩
      have h := hA.out.2.2.2
      rw [HIL.out, List.take_length] at h
      rw [← h]
      exact hA.out.1
    | succ k2 =>
      have hb : decide ((i : Int) < (l0.length : Int)) = true := decide_eq_true (by omega)
      have hb' : decide (i < l0.length) = true := decide_eq_true (by omega)
      have hil : i < l0.length := by omega
      obtain ⟨x, hx⟩ : ∃ x, rd_T24 l0 (i : Int) = x := ⟨_, rfl⟩
      obtain ⟨ad, rfl, x0, x1, x2⟩ := at_T24 (Kd.C_below HR0.out hA.out.2.1) (i : Int) (by omega) (by omega)
      rw [hx, Int.toNat_natCast] at x0 x1 x2
      have r0 := eq_true (show (0 : Int) ≤ (i : Int) by omega)
      have r1 := eq_true (show (i : Int) < (l0.length : Int) by omega)
      have r2 := eq_true hil
      have HST := Aside0.mk (show sortK ltK (l0.take (i + 1)) = insK ltK (sortK ltK (l0.take i)) x by
        rw [← sortK_snoc, List.take_succ_eq_append_getElem hil, ← hx, rd24_at l0 i hil])
      have HR1 := Aside0.mk hA.out.1
      have HBW := Aside0.mk hA.out.2.1
      have HRL := Aside0.mk (And.intro hA.out.2.2.1 hA.out.2.2.2)
      have hrl : res.length < 1000000 := by have := HRL.out.1; have := HLIM.out; omega
      clear hil hx hA
      go_upto_block 2 with (fail)
      obtain ⟨kb, hkb⟩ : ∃ kb, wr.heap.size = kb := ⟨_, rfl⟩
      obtain ⟨W4, hW4⟩ : ∃ W4, wr.alloc (.cells #[.int .i64 x.f0, .int .i64 x.f1, .int .i64 x.f2] 24) = W4 := ⟨_, rfl⟩
      have hb4 : Below wr.heap.size wr W4 := by rw [← hW4]; exact below_alloc (Below.refl _ _) _
      have hk4 : W4.heap[kb]? = some (.cells (rowK x).toArray 24 (0, 0)) := by rw [← hkb, ← hW4]; exact hb_new _ _
      rw [hW4, hkb]
      have HR4 := Aside0.mk (Kd.R_below HR1.out hb4)
      have HB4 := Aside0.mk (HBW.out.trans (hb4.mono HBW.out.size))
      have HK4 := Aside0.mk hk4
      have HS4 := Aside0.mk (show ∀ X, Below W4.heap.size W4 X → (X.cell? ⟨kb, 0, none⟩ = some (.int .i64 x.f0) ∧ X.cell? ⟨kb, 1, none⟩ = some (.int .i64 x.f1) ∧ X.cell? ⟨kb, 2, none⟩ = some (.int .i64 x.f2)) from fun X hX => by
        have hk := (hX.block _ (lt_of_blk hk4)).trans hk4
        exact ⟨(cells_of_blk hk 0).trans rfl, (cells_of_blk hk 1).trans rfl, (cells_of_blk hk 2).trans rfl⟩)
      clear hkb hW4 hb4 hk4 x0 x1 x2 r0 r1 r2 HR1 HBW
      go_cut [6] (fun v6 wx => ∃ j : Nat, v6 = .int .i64 (j : Int) ∧ Aside0 (Below W4.heap.size W4 wx ∧ j ≤ res.length ∧ (∀ m, m < j → ∀ y, res[m]? = some y → ltK y x = true) ∧ (∀ y, res[j]? = some y → ltK y x = false)))
      case first =>
        go_wp2
        go_loopg [6] res.length (fun kq v6 W => ∃ j : Nat, v6 = .int .i64 (j : Int) ∧ kq + j = res.length ∧ Aside0 (Below W4.heap.size W4 W ∧ ∀ m, m < j → ∀ y, res[m]? = some y → ltK y x = true))
        case atStart => exact ⟨0, rfl, by omega, ⟨Below.refl _ _, fun m hm => absurd hm (Nat.not_lt_zero m)⟩⟩
        case round =>
          obtain ⟨j, rfl, hj, hM⟩ := hrel
          cases gk with
          | zero =>
            have HJ := Aside0.mk (show j = res.length by omega)
            have q1 : decide ((j : Int) < (res.length : Int)) = false := decide_eq_false (by omega)
            have q2 : decide (j < res.length) = false := decide_eq_false (by omega)
            clear hj
            go_upto_region 6 with (fail)
            refine start_ (n := 12) (S := fun w' => Below W4.heap.size W4 w') (ds := ([] : List Nat)) #[false, false, false, false, false, false, false, false, false, false, false, false] (by kernel_rfl) rfl rfl (below_drew1 hM.out.1) (fun hHeld => ?_)
            refine pure_ (i := 0) (N := some 13) (v := ?_) (a' := ?_) #[true, false, false, false, false, false, false, false, false, false, false, false] rfl rfl (by kernel_rfl) (fun _ _ _ h => h) (Or.inl ⟨by rfl, ?_⟩) ?_ ?_
            rotate_left
            · intro w'
              go_simp
              with_reducible rfl
            rotate_left
            · simp only [Act.put, List.setIfInBounds_toArray, List.set_cons_zero, List.set_cons_succ, i64_w, i32_w]
              rfl
            refine pure_ (i := 1) (N := some 14) (v := ?_) (a' := ?_) #[true, true, false, false, false, false, false, false, false, false, false, false] rfl rfl (by kernel_rfl) (fun _ _ _ h => h) (Or.inl ⟨by rfl, ?_⟩) ?_ ?_
            rotate_left
            · intro w'
              go_simp
              with_reducible rfl
            rotate_left
            · simp only [Act.put, List.setIfInBounds_toArray, List.set_cons_zero, List.set_cons_succ, i64_w, i32_w]
              rfl
            refine pure_ (i := 2) (N := some 15) (v := ?_) (a' := ?_) #[true, true, true, false, false, false, false, false, false, false, false, false] rfl rfl (by kernel_rfl) (fun _ _ _ h => h) (Or.inl ⟨by rfl, ?_⟩) ?_ ?_
            rotate_left
            · intro w'
              go_simp
              with_reducible rfl
            rotate_left
            · simp only [Act.put, List.setIfInBounds_toArray, List.set_cons_zero, List.set_cons_succ, i64_w, i32_w]
              rfl
            refine pure_ (i := 3) (N := some 16) (v := ?_) (a' := ?_) #[true, true, true, true, false, false, false, false, false, false, false, false] rfl rfl (by kernel_rfl) (fun _ _ _ h => h) (Or.inl ⟨by rfl, ?_⟩) ?_ ?_
            rotate_left
            · intro w'
              go_simp
              with_reducible rfl
            rotate_left
            · simp only [Act.put, List.setIfInBounds_toArray, List.set_cons_zero, List.set_cons_succ, i64_w, i32_w]
              rfl
            refine pure_ (i := 4) (N := some 17) (v := ?_) (a' := ?_) #[true, true, true, true, true, false, false, false, false, false, false, false] rfl rfl (by kernel_rfl) (fun _ _ _ h => h) (Or.inl ⟨by rfl, ?_⟩) ?_ ?_
            rotate_left
            · intro w'
              go_simp
              with_reducible rfl
            rotate_left
            · simp only [Act.put, List.setIfInBounds_toArray, List.set_cons_zero, List.set_cons_succ, i64_w, i32_w]
              rfl
            refine pure_ (i := 5) (N := some 18) (v := undef) (a' := ?_) #[true, true, true, true, true, true, false, false, false, false, false, false] rfl rfl (by kernel_rfl) (fun _ _ _ h => h) (Or.inr ⟨by rfl, rfl⟩) ?_ ?_
            rotate_left
            · simp only [Act.put, List.setIfInBounds_toArray, List.set_cons_zero, List.set_cons_succ, i64_w, i32_w]
              rfl
            refine pure_ (i := 6) (N := some 19) (v := undef) (a' := ?_) #[true, true, true, true, true, true, true, false, false, false, false, false] rfl rfl (by kernel_rfl) (fun _ _ _ h => h) (Or.inr ⟨by rfl, rfl⟩) ?_ ?_
            rotate_left
            · simp only [Act.put, List.setIfInBounds_toArray, List.set_cons_zero, List.set_cons_succ, i64_w, i32_w]
              rfl
            refine pure_ (i := 7) (N := some 20) (v := undef) (a' := ?_) #[true, true, true, true, true, true, true, true, false, false, false, false] rfl rfl (by kernel_rfl) (fun _ _ _ h => h) (Or.inr ⟨by rfl, rfl⟩) ?_ ?_
            rotate_left
            · simp only [Act.put, List.setIfInBounds_toArray, List.set_cons_zero, List.set_cons_succ, i64_w, i32_w]
              rfl
            refine pure_ (i := 8) (N := some 21) (v := undef) (a' := ?_) #[true, true, true, true, true, true, true, true, true, false, false, false] rfl rfl (by kernel_rfl) (fun _ _ _ h => h) (Or.inr ⟨by rfl, rfl⟩) ?_ ?_
            rotate_left
            · simp only [Act.put, List.setIfInBounds_toArray, List.set_cons_zero, List.set_cons_succ, i64_w, i32_w]
              rfl
            refine pure_ (i := 9) (N := some 22) (v := undef) (a' := ?_) #[true, true, true, true, true, true, true, true, true, true, false, false] rfl rfl (by kernel_rfl) (fun _ _ _ h => h) (Or.inr ⟨by rfl, rfl⟩) ?_ ?_
            rotate_left
            · simp only [Act.put, List.setIfInBounds_toArray, List.set_cons_zero, List.set_cons_succ, i64_w, i32_w]
              rfl
            refine pure_ (i := 10) (N := some 23) (v := undef) (a' := ?_) #[true, true, true, true, true, true, true, true, true, true, true, false] rfl rfl (by kernel_rfl) (fun _ _ _ h => h) (Or.inr ⟨by rfl, rfl⟩) ?_ ?_
            rotate_left
            · simp only [Act.put, List.setIfInBounds_toArray, List.set_cons_zero, List.set_cons_succ, i64_w, i32_w]
              rfl
            refine pure_ (i := 11) (N := some 24) (v := ?_) (a' := ?_) #[true, true, true, true, true, true, true, true, true, true, true, true] rfl rfl (by kernel_rfl) (fun _ _ _ h => h) (Or.inl ⟨by rfl, ?_⟩) ?_ ?_
            rotate_left
            · intro w'
              go_simp
              with_reducible rfl
            rotate_left
            · simp only [Act.put, List.setIfInBounds_toArray, List.set_cons_zero, List.set_cons_succ, i64_w, i32_w]
              rfl
            refine done_ (by kernel_rfl) ?_
            go_wp2
            go_meet
            case rel => exact ⟨j, rfl, ⟨hHeld, by rw [HJ.out]; exact Nat.le_refl _, hM.out.2, fun y hy => by rw [HJ.out] at hy; simp at hy⟩⟩
          | succ k3 =>
            have hjl : j < res.length := by omega
            have q1 : decide ((j : Int) < (res.length : Int)) = true := decide_eq_true (by omega)
            have q2 : decide (j < res.length) = true := decide_eq_true hjl
            obtain ⟨y, hy⟩ : ∃ y, rd_T24 res (j : Int) = y := ⟨_, rfl⟩
            have hgy : res[j]? = some y := by rw [List.getElem?_eq_getElem hjl, ← hy, rd24_at res j hjl]
            obtain ⟨ad1, rfl, _, _, _⟩ := at_T24 (Kd.R_reads' HR4.out).2.2 (j : Int) (by omega) (by omega)
            have HS6 := Aside0.mk (show ∀ X, Below W4.heap.size W4 X → (X.cell? (ad1.add (j * 3)) = some (.int .i64 y.f0) ∧ X.cell? ⟨(ad1.add (j * 3)).block, (ad1.add (j * 3)).off + 1, none⟩ = some (.int .i64 y.f1) ∧ X.cell? ⟨(ad1.add (j * 3)).block, (ad1.add (j * 3)).off + 2, none⟩ = some (.int .i64 y.f2) ∧ X.cell? ⟨kb, 0, none⟩ = some (.int .i64 x.f0) ∧ X.cell? ⟨kb, 1, none⟩ = some (.int .i64 x.f1) ∧ X.cell? ⟨kb, 2, none⟩ = some (.int .i64 x.f2)) from fun X hX => by
              obtain ⟨ad2, e2, z0, z1, z2⟩ := at_T24 (Kd.C_below (Kd.R_reads' HR4.out).2.2 hX) (j : Int) (by omega) (by omega)
              obtain rfl := Option.some.inj e2
              rw [hy, Int.toNat_natCast] at z0 z1 z2
              exact ⟨z0, z1, z2, HS4.out X hX⟩)
            have HGY := Aside0.mk hgy
            have r3 := eq_true (show (0 : Int) ≤ (j : Int) by omega)
            have r4 := eq_true (show (j : Int) < (res.length : Int) by omega)
            have r5 := eq_true hjl
            obtain ⟨bl, hbl⟩ : ∃ bl, ltK y x = bl := ⟨_, rfl⟩
            have HBL := Aside0.mk hbl
            clear hgy hy hjl hbl
            go_upto_region 6 with (fail)
            refine start_ (n := 12) (S := fun X => X.cell? (ad1.add (j * 3)) = some (.int .i64 y.f0) ∧ X.cell? ⟨(ad1.add (j * 3)).block, (ad1.add (j * 3)).off + 1, none⟩ = some (.int .i64 y.f1) ∧ X.cell? ⟨(ad1.add (j * 3)).block, (ad1.add (j * 3)).off + 2, none⟩ = some (.int .i64 y.f2) ∧ X.cell? ⟨kb, 0, none⟩ = some (.int .i64 x.f0) ∧ X.cell? ⟨kb, 1, none⟩ = some (.int .i64 x.f1) ∧ X.cell? ⟨kb, 2, none⟩ = some (.int .i64 x.f2)) (ds := [10]) #[false, false, false, false, false, false, false, false, false, false, false, false] (by kernel_rfl) rfl rfl (HS6.out _ (below_drew1 hM.out.1)) (fun hHeld => ?_)
            refine pure_ (i := 0) (N := some 13) (v := ?_) (a' := ?_) #[true, false, false, false, false, false, false, false, false, false, false, false] rfl rfl (by kernel_rfl) (fun _ _ _ h => h) (Or.inl ⟨by rfl, ?_⟩) ?_ ?_
            rotate_left
            · intro w'
              go_simp
              with_reducible rfl
            rotate_left
            · simp only [Act.put, List.setIfInBounds_toArray, List.set_cons_zero, List.set_cons_succ, i64_w, i32_w]
              rfl
            refine pure_ (i := 1) (N := some 14) (v := ?_) (a' := ?_) #[true, true, false, false, false, false, false, false, false, false, false, false] rfl rfl (by kernel_rfl) (fun _ _ _ h => h) (Or.inl ⟨by rfl, ?_⟩) ?_ ?_
            rotate_left
            · intro w'
              go_simp
              with_reducible rfl
            rotate_left
            · simp only [Act.put, List.setIfInBounds_toArray, List.set_cons_zero, List.set_cons_succ, i64_w, i32_w]
              rfl
            refine pure_ (i := 2) (N := some 15) (v := ?_) (a' := ?_) #[true, true, true, false, false, false, false, false, false, false, false, false] rfl rfl (by kernel_rfl) (fun _ _ _ h => h) (Or.inl ⟨by rfl, ?_⟩) ?_ ?_
            rotate_left
            · intro w'
              go_simp
              with_reducible rfl
            rotate_left
            · simp only [Act.put, List.setIfInBounds_toArray, List.set_cons_zero, List.set_cons_succ, i64_w, i32_w]
              rfl
            refine pure_ (i := 3) (N := some 16) (v := ?_) (a' := ?_) #[true, true, true, true, false, false, false, false, false, false, false, false] rfl rfl (by kernel_rfl) (fun _ _ _ h => h) (Or.inl ⟨by rfl, ?_⟩) ?_ ?_
            rotate_left
            · intro w'
              go_simp
              with_reducible rfl
            rotate_left
            · simp only [Act.put, List.setIfInBounds_toArray, List.set_cons_zero, List.set_cons_succ, i64_w, i32_w]
              rfl
            refine pure_ (i := 4) (N := some 17) (v := ?_) (a' := ?_) #[true, true, true, true, true, false, false, false, false, false, false, false] rfl rfl (by kernel_rfl) (fun _ _ _ h => h) (Or.inl ⟨by rfl, ?_⟩) ?_ ?_
            rotate_left
            · intro w'
              go_simp
              with_reducible rfl
            rotate_left
            · simp only [Act.put, List.setIfInBounds_toArray, List.set_cons_zero, List.set_cons_succ, i64_w, i32_w]
              rfl
            refine pure_ (i := 5) (N := some 18) (v := ?_) (a' := ?_) #[true, true, true, true, true, true, false, false, false, false, false, false] rfl rfl (by kernel_rfl) (fun _ _ _ h => h) (Or.inl ⟨by rfl, ?_⟩) ?_ ?_
            rotate_left
            · intro w'
              go_simp
              with_reducible rfl
            rotate_left
            · simp only [Act.put, List.setIfInBounds_toArray, List.set_cons_zero, List.set_cons_succ, i64_w, i32_w]
              rfl
            refine pure_ (i := 6) (N := some 19) (v := ?_) (a' := ?_) #[true, true, true, true, true, true, true, false, false, false, false, false] rfl rfl (by kernel_rfl) (fun _ _ _ h => h) (Or.inl ⟨by rfl, ?_⟩) ?_ ?_
            rotate_left
            · intro w'
              go_simp
              with_reducible rfl
            rotate_left
            · simp only [Act.put, List.setIfInBounds_toArray, List.set_cons_zero, List.set_cons_succ, i64_w, i32_w]
              rfl
            refine pure_ (i := 7) (N := some 20) (v := ?_) (a' := ?_) #[true, true, true, true, true, true, true, true, false, false, false, false] rfl rfl (by kernel_rfl) (fun _ _ _ h => h) (Or.inl ⟨by rfl, ?_⟩) ?_ ?_
            rotate_left
            · intro w'
              go_simp
              with_reducible rfl
            rotate_left
            · simp only [Act.put, List.setIfInBounds_toArray, List.set_cons_zero, List.set_cons_succ, i64_w, i32_w]
              rfl
            refine take_ (i := 8) (N := some 21) (v := ?_) (a' := ?_) #[true, true, true, true, true, true, true, true, true, false, false, false] rfl rfl (by kernel_rfl) (fun _ _ _ h => h) (Or.inl ⟨by rfl, ?_⟩) hHeld ?_ ?_
            rotate_left
            · rintro w' ⟨s0_, s1_, s2_, s3_, s4_, s5_⟩
              go_simp
              with_reducible rfl
            rotate_left
            · simp only [Act.put, List.setIfInBounds_toArray, List.set_cons_zero, List.set_cons_succ, i64_w, i32_w]
              rfl
            refine take_ (i := 9) (N := some 22) (v := ?_) (a' := ?_) #[true, true, true, true, true, true, true, true, true, true, false, false] rfl rfl (by kernel_rfl) (fun _ _ _ h => h) (Or.inl ⟨by rfl, ?_⟩) hHeld ?_ ?_
            rotate_left
            · rintro w' ⟨s0_, s1_, s2_, s3_, s4_, s5_⟩
              go_simp
              with_reducible rfl
            rotate_left
            · simp only [Act.put, List.setIfInBounds_toArray, List.set_cons_zero, List.set_cons_succ, i64_w, i32_w]
              rfl
            refine last_ (i := 10) (N := some 23) #[true, true, true, true, true, true, true, true, true, true, true, false] rfl rfl (by kernel_rfl) (by decide) (fun K hK => ?_)
            refine goes_ Try.func41 (by kernel_rfl) rfl #[.agg #[.int .i64 y.f0, .int .i64 y.f1, .int .i64 y.f2], .agg #[.int .i64 x.f0, .int .i64 x.f1, .int .i64 x.f2]] (by rfl) rfl rfl (by (try simp only [List.map_toArray, List.map_cons, List.map_nil]); first | done | rfl) ?_
            refine (glossatorref3_LessKey.calls y.f0 y.f1 y.f2 x.f0 x.f1 x.f2 bl _ (by rw [lessKey_f, HBL.out])).mono ?_
            rintro e w7 ⟨rfl, hb7⟩
            refine ⟨_, rfl, ?_⟩
            refine hK.out _ _ ?_
            clear hK K hHeld
            refine norm_ (a' := ?_) ?_ ?_
            rotate_left
            · show Act.put _ (some 23) _ = _
              simp only [Act.put, List.setIfInBounds_toArray, List.set_cons_zero, List.set_cons_succ, i64_w, i32_w]
              rfl
            refine pure_ (i := 11) (N := some 24) (v := ?_) (a' := ?_) #[true, true, true, true, true, true, true, true, true, true, true, true] rfl rfl (by kernel_rfl) (fun _ _ _ h => h) (Or.inl ⟨by rfl, ?_⟩) ?_ ?_
            rotate_left
            · intro w'
              go_simp
              with_reducible rfl
            rotate_left
            · simp only [Act.put, List.setIfInBounds_toArray, List.set_cons_zero, List.set_cons_succ, i64_w, i32_w]
              rfl
            refine done_ (by kernel_rfl) ?_
            have HB7 := Aside0.mk (show Below W4.heap.size W4 w7 from (below_drew1 hM.out.1).trans (hb7.mono hM.out.1.size))
            clear hb7 HS6
            cases bl with
            | true =>
              go_wp2
              go_roundg k3
              case measure => omega
              case rel => exact ⟨j + 1, by first | rfl | (rw [wrap_id (by omega) (by omega)]; rfl), by omega, ⟨HB7.out, fun m hm z hz => by
                rcases Nat.lt_or_ge m j with h | h
                · exact hM.out.2 m h z hz
                · obtain rfl : m = j := by omega
                  rw [HGY.out] at hz
                  rw [← Option.some.inj hz]
                  exact HBL.out⟩⟩
            | false =>
              go_wp2
              go_meet
              case rel => exact ⟨j, rfl, ⟨HB7.out, by omega, hM.out.2, fun z hz => by
                rw [HGY.out] at hz
                rw [← Option.some.inj hz]
                exact HBL.out⟩⟩
      case rest =>
        obtain ⟨j, rfl, hJ⟩ := hcut
        obtain ⟨bi, hbi⟩ : ∃ bi, decide (res[j]? ≠ some x) = bi := ⟨_, rfl⟩
        have HBI := Aside0.mk hbi
        clear hbi
        go_upto_region 8 with (fail)
        go_cut [38] (fun v38 wx => v38 = .bool bi ∧ Aside0 (Below W4.heap.size W4 wx))
        case first =>
          by_cases hje : j = res.length
          · have q1 : ((j : Int) == (res.length : Int)) = true := by rw [hje]; simp
            obtain rfl : bi = true := by rw [← HBI.out, hje]; simp
            clear hje
            refine start_ (n := 12) (S := fun w' => Below W4.heap.size W4 w') (ds := ([] : List Nat)) #[false, false, false, false, false, false, false, false, false, false, false, false] (by kernel_rfl) rfl rfl (below_drew1 hJ.out.1) (fun hHeld => ?_)
            refine pure_ (i := 0) (N := some 27) (v := ?_) (a' := ?_) #[true, false, false, false, false, false, false, false, false, false, false, false] rfl rfl (by kernel_rfl) (fun _ _ _ h => h) (Or.inl ⟨by rfl, ?_⟩) ?_ ?_
            rotate_left
            · intro w'
              go_simp
              with_reducible rfl
            rotate_left
            · simp only [Act.put, List.setIfInBounds_toArray, List.set_cons_zero, List.set_cons_succ, i64_w, i32_w]
              rfl
            refine pure_ (i := 1) (N := some 28) (v := ?_) (a' := ?_) #[true, true, false, false, false, false, false, false, false, false, false, false] rfl rfl (by kernel_rfl) (fun _ _ _ h => h) (Or.inl ⟨by rfl, ?_⟩) ?_ ?_
            rotate_left
            · intro w'
              go_simp
              with_reducible rfl
            rotate_left
            · simp only [Act.put, List.setIfInBounds_toArray, List.set_cons_zero, List.set_cons_succ, i64_w, i32_w]
              rfl
            refine pure_ (i := 2) (N := some 29) (v := ?_) (a' := ?_) #[true, true, true, false, false, false, false, false, false, false, false, false] rfl rfl (by kernel_rfl) (fun _ _ _ h => h) (Or.inl ⟨by rfl, ?_⟩) ?_ ?_
            rotate_left
            · intro w'
              go_simp
              with_reducible rfl
            rotate_left
            · simp only [Act.put, List.setIfInBounds_toArray, List.set_cons_zero, List.set_cons_succ, i64_w, i32_w]
              rfl
            refine pure_ (i := 3) (N := some 30) (v := ?_) (a' := ?_) #[true, true, true, true, false, false, false, false, false, false, false, false] rfl rfl (by kernel_rfl) (fun _ _ _ h => h) (Or.inl ⟨by rfl, ?_⟩) ?_ ?_
            rotate_left
            · intro w'
              go_simp
              with_reducible rfl
            rotate_left
            · simp only [Act.put, List.setIfInBounds_toArray, List.set_cons_zero, List.set_cons_succ, i64_w, i32_w]
              rfl
            refine pure_ (i := 4) (N := some 31) (v := ?_) (a' := ?_) #[true, true, true, true, true, false, false, false, false, false, false, false] rfl rfl (by kernel_rfl) (fun _ _ _ h => h) (Or.inl ⟨by rfl, ?_⟩) ?_ ?_
            rotate_left
            · intro w'
              go_simp
              with_reducible rfl
            rotate_left
            · simp only [Act.put, List.setIfInBounds_toArray, List.set_cons_zero, List.set_cons_succ, i64_w, i32_w]
              rfl
            refine pure_ (i := 5) (N := some 32) (v := undef) (a' := ?_) #[true, true, true, true, true, true, false, false, false, false, false, false] rfl rfl (by kernel_rfl) (fun _ _ _ h => h) (Or.inr ⟨by rfl, rfl⟩) ?_ ?_
            rotate_left
            · simp only [Act.put, List.setIfInBounds_toArray, List.set_cons_zero, List.set_cons_succ, i64_w, i32_w]
              rfl
            refine pure_ (i := 6) (N := some 33) (v := undef) (a' := ?_) #[true, true, true, true, true, true, true, false, false, false, false, false] rfl rfl (by kernel_rfl) (fun _ _ _ h => h) (Or.inr ⟨by rfl, rfl⟩) ?_ ?_
            rotate_left
            · simp only [Act.put, List.setIfInBounds_toArray, List.set_cons_zero, List.set_cons_succ, i64_w, i32_w]
              rfl
            refine pure_ (i := 7) (N := some 34) (v := undef) (a' := ?_) #[true, true, true, true, true, true, true, true, false, false, false, false] rfl rfl (by kernel_rfl) (fun _ _ _ h => h) (Or.inr ⟨by rfl, rfl⟩) ?_ ?_
            rotate_left
            · simp only [Act.put, List.setIfInBounds_toArray, List.set_cons_zero, List.set_cons_succ, i64_w, i32_w]
              rfl
            refine pure_ (i := 8) (N := some 35) (v := undef) (a' := ?_) #[true, true, true, true, true, true, true, true, true, false, false, false] rfl rfl (by kernel_rfl) (fun _ _ _ h => h) (Or.inr ⟨by rfl, rfl⟩) ?_ ?_
            rotate_left
            · simp only [Act.put, List.setIfInBounds_toArray, List.set_cons_zero, List.set_cons_succ, i64_w, i32_w]
              rfl
            refine pure_ (i := 9) (N := some 36) (v := undef) (a' := ?_) #[true, true, true, true, true, true, true, true, true, true, false, false] rfl rfl (by kernel_rfl) (fun _ _ _ h => h) (Or.inr ⟨by rfl, rfl⟩) ?_ ?_
            rotate_left
            · simp only [Act.put, List.setIfInBounds_toArray, List.set_cons_zero, List.set_cons_succ, i64_w, i32_w]
              rfl
            refine pure_ (i := 10) (N := some 37) (v := undef) (a' := ?_) #[true, true, true, true, true, true, true, true, true, true, true, false] rfl rfl (by kernel_rfl) (fun _ _ _ h => h) (Or.inr ⟨by rfl, rfl⟩) ?_ ?_
            rotate_left
            · simp only [Act.put, List.setIfInBounds_toArray, List.set_cons_zero, List.set_cons_succ, i64_w, i32_w]
              rfl
            refine pure_ (i := 11) (N := some 38) (v := ?_) (a' := ?_) #[true, true, true, true, true, true, true, true, true, true, true, true] rfl rfl (by kernel_rfl) (fun _ _ _ h => h) (Or.inl ⟨by rfl, ?_⟩) ?_ ?_
            rotate_left
            · intro w'
              go_simp
              with_reducible rfl
            rotate_left
            · simp only [Act.put, List.setIfInBounds_toArray, List.set_cons_zero, List.set_cons_succ, i64_w, i32_w]
              rfl
            refine done_ (by kernel_rfl) ?_
            go_wp2
            go_meet
            case rel => exact ⟨rfl, ⟨hHeld⟩⟩
          · have q1 : ((j : Int) == (res.length : Int)) = false := by simp; omega
            have hjl : j < res.length := by have := hJ.out.2.1; omega
            obtain ⟨y, hy⟩ : ∃ y, rd_T24 res (j : Int) = y := ⟨_, rfl⟩
            have hgy : res[j]? = some y := by rw [List.getElem?_eq_getElem hjl, ← hy, rd24_at res j hjl]
            obtain ⟨ad1, rfl, _, _, _⟩ := at_T24 (Kd.R_reads' HR4.out).2.2 (j : Int) (by omega) (by omega)
            have HS6 := Aside0.mk (show ∀ X, Below W4.heap.size W4 X → (X.cell? (ad1.add (j * 3)) = some (.int .i64 y.f0) ∧ X.cell? ⟨(ad1.add (j * 3)).block, (ad1.add (j * 3)).off + 1, none⟩ = some (.int .i64 y.f1) ∧ X.cell? ⟨(ad1.add (j * 3)).block, (ad1.add (j * 3)).off + 2, none⟩ = some (.int .i64 y.f2) ∧ X.cell? ⟨kb, 0, none⟩ = some (.int .i64 x.f0) ∧ X.cell? ⟨kb, 1, none⟩ = some (.int .i64 x.f1) ∧ X.cell? ⟨kb, 2, none⟩ = some (.int .i64 x.f2)) from fun X hX => by
              obtain ⟨ad2, e2, z0, z1, z2⟩ := at_T24 (Kd.C_below (Kd.R_reads' HR4.out).2.2 hX) (j : Int) (by omega) (by omega)
              obtain rfl := Option.some.inj e2
              rw [hy, Int.toNat_natCast] at z0 z1 z2
              exact ⟨z0, z1, z2, HS4.out X hX⟩)
            have r3 := eq_true (show (0 : Int) ≤ (j : Int) by omega)
            have r4 := eq_true (show (j : Int) < (res.length : Int) by omega)
            have r5 := eq_true hjl
            have q2 : (!(y.f0 == x.f0 && (y.f1 == x.f1 && y.f2 == x.f2))) = bi := by
              rw [← HBI.out, hgy]
              by_cases h : y = x
              · subst h; simp
              · rw [decide_eq_true (show some y ≠ some x from fun e => h (Option.some.inj e)), Bool.not_eq_true']
                rw [Bool.eq_false_iff]
                intro h2
                simp only [Bool.and_eq_true, beq_iff_eq] at h2
                exact h (S24.ext' h2.1 h2.2.1 h2.2.2)
            have HQ2 := Aside0.mk q2
            clear q2
            clear hgy hy hjl hje
            refine start_ (n := 12) (S := fun X => X.cell? (ad1.add (j * 3)) = some (.int .i64 y.f0) ∧ X.cell? ⟨(ad1.add (j * 3)).block, (ad1.add (j * 3)).off + 1, none⟩ = some (.int .i64 y.f1) ∧ X.cell? ⟨(ad1.add (j * 3)).block, (ad1.add (j * 3)).off + 2, none⟩ = some (.int .i64 y.f2) ∧ X.cell? ⟨kb, 0, none⟩ = some (.int .i64 x.f0) ∧ X.cell? ⟨kb, 1, none⟩ = some (.int .i64 x.f1) ∧ X.cell? ⟨kb, 2, none⟩ = some (.int .i64 x.f2)) (ds := ([] : List Nat)) #[false, false, false, false, false, false, false, false, false, false, false, false] (by kernel_rfl) rfl rfl (HS6.out _ (below_drew1 hJ.out.1)) (fun hHeld => ?_)
            refine pure_ (i := 0) (N := some 27) (v := ?_) (a' := ?_) #[true, false, false, false, false, false, false, false, false, false, false, false] rfl rfl (by kernel_rfl) (fun _ _ _ h => h) (Or.inl ⟨by rfl, ?_⟩) ?_ ?_
            rotate_left
            · intro w'
              go_simp
              with_reducible rfl
            rotate_left
            · simp only [Act.put, List.setIfInBounds_toArray, List.set_cons_zero, List.set_cons_succ, i64_w, i32_w]
              rfl
            refine pure_ (i := 1) (N := some 28) (v := ?_) (a' := ?_) #[true, true, false, false, false, false, false, false, false, false, false, false] rfl rfl (by kernel_rfl) (fun _ _ _ h => h) (Or.inl ⟨by rfl, ?_⟩) ?_ ?_
            rotate_left
            · intro w'
              go_simp
              with_reducible rfl
            rotate_left
            · simp only [Act.put, List.setIfInBounds_toArray, List.set_cons_zero, List.set_cons_succ, i64_w, i32_w]
              rfl
            refine pure_ (i := 2) (N := some 29) (v := ?_) (a' := ?_) #[true, true, true, false, false, false, false, false, false, false, false, false] rfl rfl (by kernel_rfl) (fun _ _ _ h => h) (Or.inl ⟨by rfl, ?_⟩) ?_ ?_
            rotate_left
            · intro w'
              go_simp
              with_reducible rfl
            rotate_left
            · simp only [Act.put, List.setIfInBounds_toArray, List.set_cons_zero, List.set_cons_succ, i64_w, i32_w]
              rfl
            refine pure_ (i := 3) (N := some 30) (v := ?_) (a' := ?_) #[true, true, true, true, false, false, false, false, false, false, false, false] rfl rfl (by kernel_rfl) (fun _ _ _ h => h) (Or.inl ⟨by rfl, ?_⟩) ?_ ?_
            rotate_left
            · intro w'
              go_simp
              with_reducible rfl
            rotate_left
            · simp only [Act.put, List.setIfInBounds_toArray, List.set_cons_zero, List.set_cons_succ, i64_w, i32_w]
              rfl
            refine pure_ (i := 4) (N := some 31) (v := ?_) (a' := ?_) #[true, true, true, true, true, false, false, false, false, false, false, false] rfl rfl (by kernel_rfl) (fun _ _ _ h => h) (Or.inl ⟨by rfl, ?_⟩) ?_ ?_
            rotate_left
            · intro w'
              go_simp
              with_reducible rfl
            rotate_left
            · simp only [Act.put, List.setIfInBounds_toArray, List.set_cons_zero, List.set_cons_succ, i64_w, i32_w]
              rfl
            refine pure_ (i := 5) (N := some 32) (v := ?_) (a' := ?_) #[true, true, true, true, true, true, false, false, false, false, false, false] rfl rfl (by kernel_rfl) (fun _ _ _ h => h) (Or.inl ⟨by rfl, ?_⟩) ?_ ?_
            rotate_left
            · intro w'
              go_simp
              with_reducible rfl
            rotate_left
            · simp only [Act.put, List.setIfInBounds_toArray, List.set_cons_zero, List.set_cons_succ, i64_w, i32_w]
              rfl
            refine pure_ (i := 6) (N := some 33) (v := ?_) (a' := ?_) #[true, true, true, true, true, true, true, false, false, false, false, false] rfl rfl (by kernel_rfl) (fun _ _ _ h => h) (Or.inl ⟨by rfl, ?_⟩) ?_ ?_
            rotate_left
            · intro w'
              go_simp
              with_reducible rfl
            rotate_left
            · simp only [Act.put, List.setIfInBounds_toArray, List.set_cons_zero, List.set_cons_succ, i64_w, i32_w]
              rfl
            refine pure_ (i := 7) (N := some 34) (v := ?_) (a' := ?_) #[true, true, true, true, true, true, true, true, false, false, false, false] rfl rfl (by kernel_rfl) (fun _ _ _ h => h) (Or.inl ⟨by rfl, ?_⟩) ?_ ?_
            rotate_left
            · intro w'
              go_simp
              with_reducible rfl
            rotate_left
            · simp only [Act.put, List.setIfInBounds_toArray, List.set_cons_zero, List.set_cons_succ, i64_w, i32_w]
              rfl
            refine take_ (i := 8) (N := some 35) (v := ?_) (a' := ?_) #[true, true, true, true, true, true, true, true, true, false, false, false] rfl rfl (by kernel_rfl) (fun _ _ _ h => h) (Or.inl ⟨by rfl, ?_⟩) hHeld ?_ ?_
            rotate_left
            · rintro w' ⟨s0_, s1_, s2_, s3_, s4_, s5_⟩
              go_simp
              with_reducible rfl
            rotate_left
            · simp only [Act.put, List.setIfInBounds_toArray, List.set_cons_zero, List.set_cons_succ, i64_w, i32_w]
              rfl
            refine take_ (i := 9) (N := some 36) (v := ?_) (a' := ?_) #[true, true, true, true, true, true, true, true, true, true, false, false] rfl rfl (by kernel_rfl) (fun _ _ _ h => h) (Or.inl ⟨by rfl, ?_⟩) hHeld ?_ ?_
            rotate_left
            · rintro w' ⟨s0_, s1_, s2_, s3_, s4_, s5_⟩
              go_simp
              with_reducible rfl
            rotate_left
            · simp only [Act.put, List.setIfInBounds_toArray, List.set_cons_zero, List.set_cons_succ, i64_w, i32_w]
              rfl
            refine pure_ (i := 10) (N := some 37) (v := ?_) (a' := ?_) #[true, true, true, true, true, true, true, true, true, true, true, false] rfl rfl (by kernel_rfl) (fun _ _ _ h => h) (Or.inl ⟨by rfl, ?_⟩) ?_ ?_
            rotate_left
            · intro w'
              go_simp
              with_reducible rfl
            rotate_left
            · simp only [Act.put, List.setIfInBounds_toArray, List.set_cons_zero, List.set_cons_succ, i64_w, i32_w]
              rfl
            refine pure_ (i := 11) (N := some 38) (v := ?_) (a' := ?_) #[true, true, true, true, true, true, true, true, true, true, true, true] rfl rfl (by kernel_rfl) (fun _ _ _ h => h) (Or.inl ⟨by rfl, ?_⟩) ?_ ?_
            rotate_left
            · intro w'
              go_simp
              with_reducible rfl
            rotate_left
            · simp only [Act.put, List.setIfInBounds_toArray, List.set_cons_zero, List.set_cons_succ, i64_w, i32_w]
              rfl
            refine done_ (by kernel_rfl) ?_
            go_wp2
            go_meet
            case rel => exact ⟨by rw [← HQ2.out]; simp [Bool.not_and], ⟨below_drew1 hJ.out.1⟩⟩
        case rest =>
          obtain ⟨rfl, hW9⟩ := hcut
          cases bi with
          | false =>
            go_wp2
            go_roundg k2
            case measure => omega
            case rel =>
              refine ⟨i + 1, res, A1, c1, rfl, by congr 1; have := HLIM.out; unfold wrap64; omega, by omega, ⟨Kd.R_below HR4.out hW9.out, HB4.out.trans (hW9.out.mono HB4.out.size), by have := HRL.out.1; omega, ?_⟩⟩
              rw [HST.out, ← HRL.out.2, insK_at hJ.out.2.1 hJ.out.2.2.1 hJ.out.2.2.2, if_neg (by have := HBI.out; simpa using this)]
          | true =>
            go_upto_region 9 with (fail)
            have HRc := Aside0.mk (Kd.R_below HR4.out hW9.out)
            have HBc := Aside0.mk (HB4.out.trans (hW9.out.mono HB4.out.size))
            have HJL := Aside0.mk hJ.out.2.1
            rcases own_headK HRc.out with ⟨rfl, h2, rfl, rfl⟩ | ⟨g, rfl, hcap, hbg, hgl⟩
            · obtain rfl : j = 0 := by have := HJL.out; simpa using this
              clear h2
              refine start_ (n := 12) (S := fun X => X.cell? ⟨kb, 0, none⟩ = some (.int .i64 x.f0) ∧ X.cell? ⟨kb, 1, none⟩ = some (.int .i64 x.f1) ∧ X.cell? ⟨kb, 2, none⟩ = some (.int .i64 x.f2)) (ds := [5, 9, 10]) #[false, false, false, false, false, false, false, false, false, false, false, false] (by kernel_rfl) rfl rfl (HS4.out _ (below_drew1 hW9.out)) (fun hHeld => ?_)
              refine pure_ (i := 0) (N := some 39) (v := ?_) (a' := ?_) #[true, false, false, false, false, false, false, false, false, false, false, false] rfl rfl (by kernel_rfl) (fun _ _ _ h => h) (Or.inl ⟨by rfl, ?_⟩) ?_ ?_
              rotate_left
              · intro w'
                go_simp
                with_reducible rfl
              rotate_left
              · simp only [Act.put, List.setIfInBounds_toArray, List.set_cons_zero, List.set_cons_succ, i64_w, i32_w]
                rfl
              refine pure_ (i := 1) (N := some 40) (v := ?_) (a' := ?_) #[true, true, false, false, false, false, false, false, false, false, false, false] rfl rfl (by kernel_rfl) (fun _ _ _ h => h) (Or.inl ⟨by rfl, ?_⟩) ?_ ?_
              rotate_left
              · intro w'
                go_simp
                with_reducible rfl
              rotate_left
              · simp only [Act.put, List.setIfInBounds_toArray, List.set_cons_zero, List.set_cons_succ, i64_w, i32_w]
                rfl
              refine pure_ (i := 2) (N := some 41) (v := ?_) (a' := ?_) #[true, true, true, false, false, false, false, false, false, false, false, false] rfl rfl (by kernel_rfl) (fun _ _ _ h => h) (Or.inl ⟨by rfl, ?_⟩) ?_ ?_
              rotate_left
              · intro w'
                go_simp
                with_reducible rfl
              rotate_left
              · simp only [Act.put, List.setIfInBounds_toArray, List.set_cons_zero, List.set_cons_succ, i64_w, i32_w]
                rfl
              refine pure_ (i := 3) (N := some 42) (v := ?_) (a' := ?_) #[true, true, true, true, false, false, false, false, false, false, false, false] rfl rfl (by kernel_rfl) (fun _ _ _ h => h) (Or.inl ⟨by rfl, ?_⟩) ?_ ?_
              rotate_left
              · intro w'
                go_simp
                with_reducible rfl
              rotate_left
              · simp only [Act.put, List.setIfInBounds_toArray, List.set_cons_zero, List.set_cons_succ, i64_w, i32_w]
                rfl
              refine take_ (i := 4) (N := some 43) (v := ?_) (a' := ?_) #[true, true, true, true, true, false, false, false, false, false, false, false] rfl rfl (by kernel_rfl) (fun _ _ _ h => h) (Or.inl ⟨by rfl, ?_⟩) hHeld ?_ ?_
              rotate_left
              · rintro w' ⟨s0_, s1_, s2_⟩
                go_simp
                with_reducible rfl
              rotate_left
              · simp only [Act.put, List.setIfInBounds_toArray, List.set_cons_zero, List.set_cons_succ, i64_w, i32_w]
                rfl
              refine pure_ (i := 6) (N := some 45) (v := ?_) (a' := ?_) #[true, true, true, true, true, false, true, false, false, false, false, false] rfl rfl (by kernel_rfl) (fun _ _ _ h => h) (Or.inl ⟨by rfl, ?_⟩) ?_ ?_
              rotate_left
              · intro w'
                go_simp
                with_reducible rfl
              rotate_left
              · simp only [Act.put, List.setIfInBounds_toArray, List.set_cons_zero, List.set_cons_succ, i64_w, i32_w]
                rfl
              refine pure_ (i := 7) (N := some 46) (v := ?_) (a' := ?_) #[true, true, true, true, true, false, true, true, false, false, false, false] rfl rfl (by kernel_rfl) (fun _ _ _ h => h) (Or.inl ⟨by rfl, ?_⟩) ?_ ?_
              rotate_left
              · intro w'
                go_simp
                with_reducible rfl
              rotate_left
              · simp only [Act.put, List.setIfInBounds_toArray, List.set_cons_zero, List.set_cons_succ, i64_w, i32_w]
                rfl
              refine pure_ (i := 8) (N := some 47) (v := ?_) (a' := ?_) #[true, true, true, true, true, false, true, true, true, false, false, false] rfl rfl (by kernel_rfl) (fun _ _ _ h => h) (Or.inl ⟨by rfl, ?_⟩) ?_ ?_
              rotate_left
              · intro w'
                go_simp
                with_reducible rfl
              rotate_left
              · simp only [Act.put, List.setIfInBounds_toArray, List.set_cons_zero, List.set_cons_succ, i64_w, i32_w]
                rfl
              refine last_ (i := 5) (N := some 44) #[true, true, true, true, true, true, true, true, true, false, false, false] rfl rfl (by kernel_rfl) (by decide) (fun K hK => ?_)
              refine value_ (v := .slice (some ⟨wc.heap.size, 0, none⟩) 1 1) (w1 := wc.drew.alloc (.cells (rowK x).toArray 24)) (by rfl) rfl ?_ ?_
              · go_simp
                rfl
              clear hHeld
              refine hK.out _ _ ?_
              clear hK K
              refine norm_ (a' := ?_) ?_ ?_
              rotate_left
              · show Act.put _ (some 44) _ = _
                simp only [Act.put, List.setIfInBounds_toArray, List.set_cons_zero, List.set_cons_succ, i64_w, i32_w]
                rfl
              obtain ⟨W5, hW5⟩ : ∃ W5, wc.drew.alloc (.cells (rowK x).toArray 24) = W5 := ⟨_, rfl⟩
              have hb5 : Below wc.heap.size wc W5 := by rw [← hW5]; exact below_alloc (below_drew1 (Below.refl _ _)) _
              have hk5 : W5.heap[wc.heap.size]? = some (.cells (rowK x).toArray 24 (0, 0)) := by rw [← hW5]; exact hb_new wc.drew _
              have hs5 : wc.heap.size < W5.heap.size := lt_of_blk hk5
              rw [hW5]
              clear hW5
              have HB5 := Aside0.mk hb5
              have HO5 := Aside0.mk (R_oneK hk5 (Nat.le_refl wc.heap.size))
              have HCD := Aside0.mk (show Kd.C k24 W5 none 0 ([] : List S24) from Kd.C_nil _ _)
              have HLM := Aside0.mk (show (([x] : List S24).length + 0) * 24 ≤ 140737488355328 by have := HLIM.out; have := HRL.out.1; simp only [List.length_singleton]; omega)
              clear hb5 hk5 hs5
              refine last_ (i := 9) (N := some 48) #[true, true, true, true, true, true, true, true, true, true, false, false] rfl rfl (by kernel_rfl) (by decide) (fun K hK => ?_)
              refine Kd.R_append_rows_step k24 (Rr := k24.K W5) (w0 := wc) wc.heap.size (by rfl) (.tmp 44) (.tmp 47) 27 24 (.agg #[.int .i64 0, .int .i64 0, .int .i64 0]) 24 rfl Try.underlying27 info24_ rfl (by decide) (by decide) (.slice (some ⟨wc.heap.size, 0, none⟩) 1 1) [x] ([] : List S24) none 0 0 (fun _ => True) (fun _ => False) rfl rfl HO5.out HCD.out (fun x cs h => K_M24 h) (fun _ h => h.elim) (fun _ _ => trivial) HB5.out HB5.out.size HLM.out ?_
              intro v6 w6 hv6 hb6 hg6 _
              obtain ⟨A6, c6, hw6⟩ := Kd.R_slice hv6
              subst hw6
              have HV6 := Aside0.mk hv6
              have HB6 := Aside0.mk hb6
              clear hv6 hb6 hg6
              refine hK.out _ _ ?_
              clear hK K
              refine norm_ (a' := ?_) ?_ ?_
              rotate_left
              · show Act.put _ (some 48) _ = _
                simp only [Act.put, List.setIfInBounds_toArray, List.set_cons_zero, List.set_cons_succ, i64_w, i32_w]
                rfl
              have HFULL := Aside0.mk (run_append_full (P := Try.prog) k24 (W := w6) 27 27 24 (.agg #[.int .i64 0, .int .i64 0, .int .i64 0]) 24 Try.underlying27 info24_ rfl (by decide) none 0 0 ([] : List S24) A6 ([x] ++ ([] : List S24)).length c6 ([x] ++ ([] : List S24)) (Kd.C_nil _ _) (Kd.R_reads' HV6.out).2.2 (fun W' base ok x cs h => K_M24 h) (by simp) (by simp) (fun _ => ⟨rfl, rfl⟩) (by have := HLIM.out; have := HRL.out.1; have := HJL.out; first | (simp; done) | (simp; omega)) (by have := HLIM.out; have := HRL.out.1; have := HJL.out; first | (simp; done) | (simp; omega)) (fun _ => True) (fun _ _ => trivial))
              refine last_ (i := 10) (N := some 49) #[true, true, true, true, true, true, true, true, true, true, true, false] rfl rfl (by kernel_rfl) (by decide) (fun K hK => ?_)
              obtain ⟨v7, w7, hrun, hv7, hg7⟩ := HFULL.out
              refine event_step (v := v7) (w1 := w7) (by rfl) (by simpa [execOp, resolve, invoke, builtin, Act.eval, Act.put, Result.andThen] using congrArg (fun r => r.andThen fun v w => Result.ok (Next.value v) w) hrun) ?_
              have HBW7 := Aside0.mk ((HBc.out.trans (HB6.out.mono HBc.out.size)).trans ((grown_belowK hg7).mono (Nat.le_trans HBc.out.size HB6.out.size)))
              obtain ⟨A7, c7, hw7⟩ := Kd.R_slice hv7
              subst hw7
              have HV7 := Aside0.mk hv7
              clear hrun hv7 hg7
              refine hK.out _ _ ?_
              clear hK K
              refine norm_ (a' := ?_) ?_ ?_
              rotate_left
              · show Act.put _ (some 49) _ = _
                simp only [Act.put, List.setIfInBounds_toArray, List.set_cons_zero, List.set_cons_succ, i64_w, i32_w]
                rfl
              refine pure_ (i := 11) (N := some 3) (v := ?_) (a' := ?_) #[true, true, true, true, true, true, true, true, true, true, true, true] rfl rfl (by kernel_rfl) (fun _ _ _ h => h) (Or.inl ⟨by rfl, ?_⟩) ?_ ?_
              rotate_left
              · intro w'
                go_simp
                with_reducible rfl
              rotate_left
              · simp only [Act.put, List.setIfInBounds_toArray, List.set_cons_zero, List.set_cons_succ, i64_w, i32_w]
                rfl
              refine done_ (by kernel_rfl) ?_
              go_wp2
              all_goals
                go_roundg k2
                case measure => omega
                case rel =>
                  have hins : insK ltK (sortK ltK (l0.take i)) x = ([] : List S24) ++ ([x] ++ ([] : List S24)) := by
                    rw [← HRL.out.2, insK_at hJ.out.2.1 hJ.out.2.2.1 hJ.out.2.2.2, if_pos (by first | (simp; done) | (have := HBI.out; simpa using this))]
                    rfl
                  refine ⟨i + 1, ([] : List S24) ++ ([x] ++ ([] : List S24)), A7, c7, by simp [Nat.min_eq_left HJL.out], by congr 1; have := HLIM.out; unfold wrap64; omega, by omega, ⟨Kd.R_lower HV7.out (Nat.le_trans HBc.out.size HB6.out.size), HBW7.out, ?_, ?_⟩⟩
                  · have h1 := insK_len ltK (sortK ltK (l0.take i)) x
                    rw [hins, ← HRL.out.2] at h1
                    have := HRL.out.1
                    omega
                  · rw [HST.out, hins]
            · have q0 := eq_true (show (0 : Int) ≤ (j : Int) by omega)
              have q1 := eq_true (show (j : Int) ≤ (c1 : Int) by have := HJL.out; omega)
              have q2 := eq_true (show j ≤ c1 by have := HJL.out; omega)
              have q3 := eq_true (show (j : Int) ≤ (res.length : Int) by have := HJL.out; omega)
              have q4 := eq_true (show j ≤ res.length from HJL.out)
              have hcap2 := Aside0.mk hcap
              clear hcap
              refine start_ (n := 12) (S := fun X => X.cell? ⟨kb, 0, none⟩ = some (.int .i64 x.f0) ∧ X.cell? ⟨kb, 1, none⟩ = some (.int .i64 x.f1) ∧ X.cell? ⟨kb, 2, none⟩ = some (.int .i64 x.f2)) (ds := [5, 9, 10]) #[false, false, false, false, false, false, false, false, false, false, false, false] (by kernel_rfl) rfl rfl (HS4.out _ (below_drew1 hW9.out)) (fun hHeld => ?_)
              refine pure_ (i := 0) (N := some 39) (v := ?_) (a' := ?_) #[true, false, false, false, false, false, false, false, false, false, false, false] rfl rfl (by kernel_rfl) (fun _ _ _ h => h) (Or.inl ⟨by rfl, ?_⟩) ?_ ?_
              rotate_left
              · intro w'
                go_simp
                with_reducible rfl
              rotate_left
              · simp only [Act.put, List.setIfInBounds_toArray, List.set_cons_zero, List.set_cons_succ, i64_w, i32_w]
                rfl
              refine pure_ (i := 1) (N := some 40) (v := ?_) (a' := ?_) #[true, true, false, false, false, false, false, false, false, false, false, false] rfl rfl (by kernel_rfl) (fun _ _ _ h => h) (Or.inl ⟨by rfl, ?_⟩) ?_ ?_
              rotate_left
              · intro w'
                go_simp
                with_reducible rfl
              rotate_left
              · simp only [Act.put, List.setIfInBounds_toArray, List.set_cons_zero, List.set_cons_succ, i64_w, i32_w]
                rfl
              refine pure_ (i := 2) (N := some 41) (v := ?_) (a' := ?_) #[true, true, true, false, false, false, false, false, false, false, false, false] rfl rfl (by kernel_rfl) (fun _ _ _ h => h) (Or.inl ⟨by rfl, ?_⟩) ?_ ?_
              rotate_left
              · intro w'
                go_simp
                with_reducible rfl
              rotate_left
              · simp only [Act.put, List.setIfInBounds_toArray, List.set_cons_zero, List.set_cons_succ, i64_w, i32_w]
                rfl
              refine pure_ (i := 3) (N := some 42) (v := ?_) (a' := ?_) #[true, true, true, true, false, false, false, false, false, false, false, false] rfl rfl (by kernel_rfl) (fun _ _ _ h => h) (Or.inl ⟨by rfl, ?_⟩) ?_ ?_
              rotate_left
              · intro w'
                go_simp
                with_reducible rfl
              rotate_left
              · simp only [Act.put, List.setIfInBounds_toArray, List.set_cons_zero, List.set_cons_succ, i64_w, i32_w]
                rfl
              refine take_ (i := 4) (N := some 43) (v := ?_) (a' := ?_) #[true, true, true, true, true, false, false, false, false, false, false, false] rfl rfl (by kernel_rfl) (fun _ _ _ h => h) (Or.inl ⟨by rfl, ?_⟩) hHeld ?_ ?_
              rotate_left
              · rintro w' ⟨s0_, s1_, s2_⟩
                go_simp
                with_reducible rfl
              rotate_left
              · simp only [Act.put, List.setIfInBounds_toArray, List.set_cons_zero, List.set_cons_succ, i64_w, i32_w]
                rfl
              refine pure_ (i := 6) (N := some 45) (v := ?_) (a' := ?_) #[true, true, true, true, true, false, true, false, false, false, false, false] rfl rfl (by kernel_rfl) (fun _ _ _ h => h) (Or.inl ⟨by rfl, ?_⟩) ?_ ?_
              rotate_left
              · intro w'
                go_simp
                with_reducible rfl
              rotate_left
              · simp only [Act.put, List.setIfInBounds_toArray, List.set_cons_zero, List.set_cons_succ, i64_w, i32_w]
                rfl
              refine pure_ (i := 7) (N := some 46) (v := ?_) (a' := ?_) #[true, true, true, true, true, false, true, true, false, false, false, false] rfl rfl (by kernel_rfl) (fun _ _ _ h => h) (Or.inl ⟨by rfl, ?_⟩) ?_ ?_
              rotate_left
              · intro w'
                go_simp
                with_reducible rfl
              rotate_left
              · simp only [Act.put, List.setIfInBounds_toArray, List.set_cons_zero, List.set_cons_succ, i64_w, i32_w]
                rfl
              refine pure_ (i := 8) (N := some 47) (v := ?_) (a' := ?_) #[true, true, true, true, true, false, true, true, true, false, false, false] rfl rfl (by kernel_rfl) (fun _ _ _ h => h) (Or.inl ⟨by rfl, ?_⟩) ?_ ?_
              rotate_left
              · intro w'
                go_simp
                with_reducible rfl
              rotate_left
              · simp only [Act.put, List.setIfInBounds_toArray, List.set_cons_zero, List.set_cons_succ, i64_w, i32_w]
                rfl
              refine last_ (i := 5) (N := some 44) #[true, true, true, true, true, true, true, true, true, false, false, false] rfl rfl (by kernel_rfl) (by decide) (fun K hK => ?_)
              refine value_ (v := .slice (some ⟨wc.heap.size, 0, none⟩) 1 1) (w1 := wc.drew.alloc (.cells (rowK x).toArray 24)) (by rfl) rfl ?_ ?_
              · go_simp
                rfl
              clear hHeld
              refine hK.out _ _ ?_
              clear hK K
              refine norm_ (a' := ?_) ?_ ?_
              rotate_left
              · show Act.put _ (some 44) _ = _
                simp only [Act.put, List.setIfInBounds_toArray, List.set_cons_zero, List.set_cons_succ, i64_w, i32_w]
                rfl
              obtain ⟨W5, hW5⟩ : ∃ W5, wc.drew.alloc (.cells (rowK x).toArray 24) = W5 := ⟨_, rfl⟩
              have hb5 : Below wc.heap.size wc W5 := by rw [← hW5]; exact below_alloc (below_drew1 (Below.refl _ _)) _
              have hk5 : W5.heap[wc.heap.size]? = some (.cells (rowK x).toArray 24 (0, 0)) := by rw [← hW5]; exact hb_new wc.drew _
              have hs5 : wc.heap.size < W5.heap.size := lt_of_blk hk5
              rw [hW5]
              clear hW5
              have HB5 := Aside0.mk hb5
              have HO5 := Aside0.mk (R_oneK hk5 (Nat.le_refl wc.heap.size))
              have HCD := Aside0.mk (show Kd.C k24 W5 (if c1 = j then some ⟨g, 0, none⟩ else some ⟨g, j * 3, none⟩) (res.length - j) (res.drop j) from (by
                have h := Kd.C_drop (k := k24) (c := c1) (Kd.C_below (Kd.R_reads' HRc.out).2.2 HB5.out) HJL.out hcap2.out
                rw [List.length_drop] at h
                have e : (Option.map (fun a : Addr => a.add (j * k24.sz)) (some ⟨g, 0, none⟩)) = some (⟨g, j * 3, none⟩ : Addr) := by
                  simp only [Option.map_some]
                  rw [Addr.add_lit, Nat.zero_add]
                  rfl
                rw [e] at h
                exact h))
              have HLM := Aside0.mk (show (([x] : List S24).length + (res.length - j)) * 24 ≤ 140737488355328 by have := HLIM.out; have := HRL.out.1; simp only [List.length_singleton]; omega)
              clear hb5 hk5 hs5
              refine last_ (i := 9) (N := some 48) #[true, true, true, true, true, true, true, true, true, true, false, false] rfl rfl (by kernel_rfl) (by decide) (fun K hK => ?_)
              refine Kd.R_append_rows_step k24 (Rr := k24.K W5) (w0 := wc) wc.heap.size (by rfl) (.tmp 44) (.tmp 47) 27 24 (.agg #[.int .i64 0, .int .i64 0, .int .i64 0]) 24 rfl Try.underlying27 info24_ rfl (by decide) (by decide) (.slice (some ⟨wc.heap.size, 0, none⟩) 1 1) [x] (res.drop j) (if c1 = j then some ⟨g, 0, none⟩ else some ⟨g, j * 3, none⟩) (res.length - j) (c1 - j) (fun _ => True) (fun _ => False) rfl rfl HO5.out HCD.out (fun x cs h => K_M24 h) (fun _ h => h.elim) (fun _ _ => trivial) HB5.out HB5.out.size HLM.out ?_
              intro v6 w6 hv6 hb6 hg6 _
              obtain ⟨A6, c6, hw6⟩ := Kd.R_slice hv6
              subst hw6
              have HV6 := Aside0.mk hv6
              have HB6 := Aside0.mk hb6
              clear hv6 hb6 hg6
              refine hK.out _ _ ?_
              clear hK K
              refine norm_ (a' := ?_) ?_ ?_
              rotate_left
              · show Act.put _ (some 48) _ = _
                simp only [Act.put, List.setIfInBounds_toArray, List.set_cons_zero, List.set_cons_succ, i64_w, i32_w]
                rfl
              have HFULL := Aside0.mk (run_append_full (P := Try.prog) k24 (W := w6) 27 27 24 (.agg #[.int .i64 0, .int .i64 0, .int .i64 0]) 24 Try.underlying27 info24_ rfl (by decide) (some ⟨g, 0, none⟩) j j (res.take j) A6 ([x] ++ (res.drop j)).length c6 ([x] ++ (res.drop j)) (by
                have h := Kd.C_take (Kd.C_below (Kd.R_reads' HRc.out).2.2 HB6.out) HJL.out
                rw [List.length_take, Nat.min_eq_left HJL.out] at h
                exact h) (Kd.R_reads' HV6.out).2.2 (fun W' base ok x cs h => K_M24 h) (by simp) (by simp) (fun h => by cases h) (by have := HLIM.out; have := HRL.out.1; have := HJL.out; first | (simp; done) | (simp; omega)) (by have := HLIM.out; have := HRL.out.1; have := HJL.out; first | (simp; done) | (simp; omega)) (fun _ => True) (fun _ _ => trivial))
              refine last_ (i := 10) (N := some 49) #[true, true, true, true, true, true, true, true, true, true, true, false] rfl rfl (by kernel_rfl) (by decide) (fun K hK => ?_)
              obtain ⟨v7, w7, hrun, hv7, hg7⟩ := HFULL.out
              refine event_step (v := v7) (w1 := w7) (by rfl) (by simpa [execOp, resolve, invoke, builtin, Act.eval, Act.put, Result.andThen] using congrArg (fun r => r.andThen fun v w => Result.ok (Next.value v) w) hrun) ?_
              have HBW7 := Aside0.mk ((HBc.out.trans (HB6.out.mono HBc.out.size)).trans ((grown_belowK hg7).mono (Nat.le_trans HBc.out.size HB6.out.size)))
              obtain ⟨A7, c7, hw7⟩ := Kd.R_slice hv7
              subst hw7
              have HV7 := Aside0.mk hv7
              clear hrun hv7 hg7
              refine hK.out _ _ ?_
              clear hK K
              refine norm_ (a' := ?_) ?_ ?_
              rotate_left
              · show Act.put _ (some 49) _ = _
                simp only [Act.put, List.setIfInBounds_toArray, List.set_cons_zero, List.set_cons_succ, i64_w, i32_w]
                rfl
              refine pure_ (i := 11) (N := some 3) (v := ?_) (a' := ?_) #[true, true, true, true, true, true, true, true, true, true, true, true] rfl rfl (by kernel_rfl) (fun _ _ _ h => h) (Or.inl ⟨by rfl, ?_⟩) ?_ ?_
              rotate_left
              · intro w'
                go_simp
                with_reducible rfl
              rotate_left
              · simp only [Act.put, List.setIfInBounds_toArray, List.set_cons_zero, List.set_cons_succ, i64_w, i32_w]
                rfl
              refine done_ (by kernel_rfl) ?_
              go_wp2
              all_goals
                go_roundg k2
                case measure => omega
                case rel =>
                  have hins : insK ltK (sortK ltK (l0.take i)) x = (res.take j) ++ ([x] ++ (res.drop j)) := by
                    rw [← HRL.out.2, insK_at hJ.out.2.1 hJ.out.2.2.1 hJ.out.2.2.2, if_pos (by first | (simp; done) | (have := HBI.out; simpa using this))]
                    rfl
                  refine ⟨i + 1, (res.take j) ++ ([x] ++ (res.drop j)), A7, c7, by simp [Nat.min_eq_left HJL.out], by congr 1; have := HLIM.out; unfold wrap64; omega, by omega, ⟨Kd.R_lower HV7.out (Nat.le_trans HBc.out.size HB6.out.size), HBW7.out, ?_, ?_⟩⟩
                  · have h1 := insK_len ltK (sortK ltK (l0.take i)) x
                    rw [hins, ← HRL.out.2] at h1
                    have := HRL.out.1
                    omega
                  · rw [HST.out, hins]
end
def glossatorref3_SortKeys.f (l0 : List S24) : Option (List S24) := if l0.length < 1000000 then some (Go.Proofs.Ytofonbfpjfabbaa.Hand.sortK ltK l0) else none
theorem glossatorref3_SortKeys.calls (A0 : Option Addr) (c0 : Nat) (l0 : List (S24)) (r : List (S24)) (w : World) (hr0 : Kd.C k24 w A0 l0.length l0) (hc0 : l0.length ≤ c0) (h : glossatorref3_SortKeys.f l0 = some r) :
    Calls Try.prog 24 #[.slice A0 l0.length c0] w fun e w' => ∃ v0_ : Value, e = .returned (v0_) ∧ Kd.R k24 24 w' w.heap.size (fun _ => True) v0_ r ∧ Below w.heap.size w w' := by
  unfold glossatorref3_SortKeys.f at h
  split at h
  case isFalse => cases h
  next hl =>
  obtain rfl := Option.some.inj h
  exact sortKeys_calls A0 c0 l0 w hr0 hl

end Go.Proofs.Ytofonbfpjfabbaa.QDepgraphReduction
