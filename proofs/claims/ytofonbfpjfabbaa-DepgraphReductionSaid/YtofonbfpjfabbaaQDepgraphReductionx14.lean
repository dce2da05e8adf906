-- Written by gen.py (this repo's wip/), which runs the kit's print.py with more arms. Lean checks it.
import Derived.Test.YtofonbfpjfabbaaQDepgraphReductionx0
import Derived.Test.YtofonbfpjfabbaaQDepgraphReductionx2
namespace Go.Proofs.Ytofonbfpjfabbaa.QDepgraphReduction
open Go.RowKit Go.Proofs.YtofonbfpjfabbaaW.PrintWords Go.Proofs.YtofonbfpjfabbaaW.PrintLast Go.Proofs.YtofonbfpjfabbaaW.PrintMore
attribute [local go_sem] max2_int min2_int max_two min_two max_three min_three max_four min_four   -- for this text's walks alone
set_option linter.unusedVariables false
set_option linter.unusedSimpArgs false

private theorem isEmpty_bne {α : Type} [BEq α] (l : List α) : (l != []) = !l.isEmpty := by cases l <;> rfl

attribute [local go_sem high] eqA44
section
open Go.Lib Go.Proofs.Ytofonbfpjfabbaa.Hand Go.Proofs.Ytofonbfpjfabbaa.Aid
/-- An edge's six cells. -/
def encE (x : S44) : Value := .agg #[.int .i64 x.f0.f0, .int .i64 x.f0.f1, .int .i64 x.f0.f2, .int .i64 x.f1.f0, .int .i64 x.f1.f1, .int .i64 x.f1.f2]
def neE (x y : S44) : Bool := ((!(x.f0.f0 == y.f0.f0) || (!(x.f0.f1 == y.f0.f1) || (!(x.f0.f2 == y.f0.f2)))) || ((!(x.f1.f0 == y.f1.f0) || (!(x.f1.f1 == y.f1.f1) || (!(x.f1.f2 == y.f1.f2))))))
theorem neE_iff (x y : S44) : neE x y = false ↔ x = y := by
  unfold neE
  simp only [Bool.or_eq_false_iff, Bool.not_eq_false', beq_iff_eq]
  constructor
  · rintro ⟨⟨h1, h2, h3⟩, h4, h5, h6⟩
    obtain ⟨⟨a1, a2, a3⟩, a4, a5, a6⟩ := x
    obtain ⟨⟨b1, b2, b3⟩, b4, b5, b6⟩ := y
    simp only at h1 h2 h3 h4 h5 h6
    subst h1 h2 h3 h4 h5 h6
    rfl
  · rintro rfl
    exact ⟨⟨rfl, rfl, rfl⟩, rfl, rfl, rfl⟩
/-- Do the rows hold the same, from i on. -/
def eqEL : List S44 → List S44 → Bool
  | x :: s, y :: t => if neE x y = true then false else eqEL s t
  | _, _ => true
def eqEF (l0 l1 : List S44) (i : Nat) : Bool := eqEL (l0.drop i) (l1.drop i)
theorem eqEF_end (l0 l1 : List S44) : eqEF l0 l1 l0.length = true := by unfold eqEF; rw [List.drop_length]; rfl
theorem eqEF_step (l0 l1 : List S44) (i : Nat) (h0 : i < l0.length) (h1 : i < l1.length) : eqEF l0 l1 i = if neE l0[i] l1[i] = true then false else eqEF l0 l1 (i + 1) := by
  unfold eqEF
  rw [List.drop_eq_getElem_cons h0, List.drop_eq_getElem_cons h1]
  rfl
def eqEP (l0 l1 : List S44) : Bool := if l0.length = l1.length then eqEF l0 l1 0 else false
theorem rdE44_at (xs : List S44) (i : Nat) (h : i < xs.length) : rd_T44 xs (i : Int) = xs[i] := by
  unfold rd_T44
  rw [Int.toNat_natCast, List.getD_eq_getElem?_getD, List.getElem?_eq_getElem h]
  rfl
set_option maxRecDepth 100000 in
set_option maxHeartbeats 16000000 in
theorem eqE_calls (A0 : Option Addr) (c0 : Nat) (l0 : List S44) (A1 : Option Addr) (c1 : Nat) (l1 : List S44) (w : World) (hr0 : Kd.C k44 w A0 l0.length l0) (hr1 : Kd.C k44 w A1 l1.length l1) :
    Calls Try.prog 19 #[.slice A0 l0.length c0, .slice A1 l1.length c1] w fun e w' => e = .returned (.bool (eqEP l0 l1)) ∧ Below w.heap.size w w' := by
  have HR0 := Aside0.mk hr0
  have HR1 := Aside0.mk hr1
  have HM := Aside0.mk (Kd.C_max hr0)
  clear hr0 hr1
  by_cases hl : l0.length = l1.length
  · have z0 : ((l0.length : Int) != (l1.length : Int)) = false := by rw [hl]; exact bne_self_eq_false _
    have z1 : (l0.length != l1.length) = false := by rw [hl]; exact bne_self_eq_false _
    have z2 : ((l0.length : Int) == (l1.length : Int)) = true := by rw [hl]; exact beq_self_eq_true _
    have z3 : (l0.length == l1.length) = true := by rw [hl]; exact beq_self_eq_true _
    have HF := Aside0.mk (show eqEP l0 l1 = eqEF l0 l1 0 by unfold eqEP; rw [if_pos hl])
    have HL := Aside0.mk hl
    clear hl
    go_enter Try.func19, Try.ntmps19
    go_wp2
    clear z0 z1 z2 z3
    go_loopg [14] l0.length (fun kq v14 W => ∃ i : Nat, v14 = .int .i64 (i : Int) ∧ kq + i = l0.length ∧ Aside0 (Below w.heap.size w W ∧ eqEP l0 l1 = eqEF l0 l1 i))
    case atStart => exact ⟨0, rfl, by omega, ⟨Below.refl _ _, HF.out⟩⟩
    case round =>
      obtain ⟨i, rfl, hi, hA⟩ := hrel
      cases gk with
      | zero =>
        have HIL := Aside0.mk (show i = l0.length by omega)
        have c0' : decide ((i : Int) < (l0.length : Int)) = false := decide_eq_false (by omega)
        have c0'' : decide (i < l0.length) = false := decide_eq_false (by omega)
        clear hi
        go_wp2
        go_ret
        exact ⟨by rw [hA.out.2, HIL.out, eqEF_end]; rfl, hA.out.1⟩
      | succ k1 =>
        have c0' : decide ((i : Int) < (l0.length : Int)) = true := decide_eq_true (by omega)
        have hil : i < l0.length := by omega
        have hil1 : i < l1.length := by have := HL.out; omega
        have c0'' : decide (i < l0.length) = true := decide_eq_true hil
        obtain ⟨x, hx⟩ : ∃ x, rd_T44 l0 (i : Int) = x := ⟨_, rfl⟩
        obtain ⟨y, hy⟩ : ∃ y, rd_T44 l1 (i : Int) = y := ⟨_, rfl⟩
        have hxi : l0[i] = x := by rw [← hx, rdE44_at l0 i hil]
        have hyi : l1[i] = y := by rw [← hy, rdE44_at l1 i hil1]
        obtain ⟨ad, rfl, x0, x1, x2, x3, x4, x5⟩ := at_T44 (Kd.C_below HR0.out hA.out.1) (i : Int) (by omega) (by omega)
        rw [hx, Int.toNat_natCast] at x0 x1 x2 x3 x4 x5
        obtain ⟨ad1, rfl, y0, y1, y2, y3, y4, y5⟩ := at_T44 (Kd.C_below HR1.out hA.out.1) (i : Int) (by omega) (by omega)
        rw [hy, Int.toNat_natCast] at y0 y1 y2 y3 y4 y5
        have r0 := eq_true (show (0 : Int) ≤ (i : Int) by omega)
        have r1 := eq_true (show (i : Int) < (l0.length : Int) by omega)
        have r2 := eq_true hil
        have r3 := eq_true (show (i : Int) < (l1.length : Int) by omega)
        have r4 := eq_true hil1
        have HSTEP := Aside0.mk (show eqEF l0 l1 i = if neE x y = true then false else eqEF l0 l1 (i + 1) by rw [eqEF_step l0 l1 i hil hil1, hxi, hyi])
        clear hil hil1 hx hy hxi hyi
        go_upto_region 6 with (fail)
        obtain ⟨Wk, hWk⟩ : ∃ Wk, wr.alloc (.cells #[.int .i64 x.f0.f0, .int .i64 x.f0.f1, .int .i64 x.f0.f2, .int .i64 x.f1.f0, .int .i64 x.f1.f1, .int .i64 x.f1.f2] 44) = Wk := ⟨_, rfl⟩
        have hbk : Below wr.heap.size wr Wk := by rw [← hWk]; exact below_alloc (Below.refl _ _) _
        have hkb : Wk.heap[wr.heap.size]? = some (.cells #[.int .i64 x.f0.f0, .int .i64 x.f0.f1, .int .i64 x.f0.f2, .int .i64 x.f1.f0, .int .i64 x.f1.f1, .int .i64 x.f1.f2] 44 (0, 0)) := by rw [← hWk]; exact hb_new _ _
        have HK := Aside0.mk (show ∀ X : World, X.heap = Wk.heap → (X.cell? ⟨wr.heap.size, 0, none⟩ = some (.int .i64 x.f0.f0) ∧ X.cell? ⟨wr.heap.size, 1, none⟩ = some (.int .i64 x.f0.f1) ∧ X.cell? ⟨wr.heap.size, 2, none⟩ = some (.int .i64 x.f0.f2) ∧ X.cell? ⟨wr.heap.size, 3, none⟩ = some (.int .i64 x.f1.f0) ∧ X.cell? ⟨wr.heap.size, 4, none⟩ = some (.int .i64 x.f1.f1) ∧ X.cell? ⟨wr.heap.size, 5, none⟩ = some (.int .i64 x.f1.f2)
          ∧ X.cell? (ad1.add (i * 6)) = some (.int .i64 y.f0.f0) ∧ X.cell? ⟨(ad1.add (i * 6)).block, (ad1.add (i * 6)).off + 1, none⟩ = some (.int .i64 y.f0.f1) ∧ X.cell? ⟨(ad1.add (i * 6)).block, (ad1.add (i * 6)).off + 2, none⟩ = some (.int .i64 y.f0.f2) ∧ X.cell? ⟨(ad1.add (i * 6)).block, (ad1.add (i * 6)).off + 3, none⟩ = some (.int .i64 y.f1.f0) ∧ X.cell? ⟨(ad1.add (i * 6)).block, (ad1.add (i * 6)).off + 4, none⟩ = some (.int .i64 y.f1.f1) ∧ X.cell? ⟨(ad1.add (i * 6)).block, (ad1.add (i * 6)).off + 5, none⟩ = some (.int .i64 y.f1.f2)) from fun X hX => by
          have e := (show X.heap[wr.heap.size]? = Wk.heap[wr.heap.size]? by rw [hX]).trans hkb
          have hc : ∀ p, X.cell? p = Wk.cell? p := fun p => by unfold World.cell?; rw [hX]
          have hy : ∀ p v, wr.cell? p = some v → X.cell? p = some v := fun p v h => (hc p).trans ((hbk.cell (World.block_lt_of_cell? _ _ h)).trans h)
          exact ⟨(cells_of_blk e 0).trans rfl, (cells_of_blk e 1).trans rfl, (cells_of_blk e 2).trans rfl, (cells_of_blk e 3).trans rfl, (cells_of_blk e 4).trans rfl, (cells_of_blk e 5).trans rfl, hy _ _ y0, hy _ _ y1, hy _ _ y2, hy _ _ y3, hy _ _ y4, hy _ _ y5⟩)
        have HBK := Aside0.mk hbk
        rw [hWk]
        clear hWk hbk hkb x0 x1 x2 x3 x4 x5 y0 y1 y2 y3 y4 y5
        refine start_ (n := 6) (S := fun X => X.cell? ⟨wr.heap.size, 0, none⟩ = some (.int .i64 x.f0.f0) ∧ X.cell? ⟨wr.heap.size, 1, none⟩ = some (.int .i64 x.f0.f1) ∧ X.cell? ⟨wr.heap.size, 2, none⟩ = some (.int .i64 x.f0.f2) ∧ X.cell? ⟨wr.heap.size, 3, none⟩ = some (.int .i64 x.f1.f0) ∧ X.cell? ⟨wr.heap.size, 4, none⟩ = some (.int .i64 x.f1.f1) ∧ X.cell? ⟨wr.heap.size, 5, none⟩ = some (.int .i64 x.f1.f2) ∧ X.cell? (ad1.add (i * 6)) = some (.int .i64 y.f0.f0) ∧ X.cell? ⟨(ad1.add (i * 6)).block, (ad1.add (i * 6)).off + 1, none⟩ = some (.int .i64 y.f0.f1) ∧ X.cell? ⟨(ad1.add (i * 6)).block, (ad1.add (i * 6)).off + 2, none⟩ = some (.int .i64 y.f0.f2) ∧ X.cell? ⟨(ad1.add (i * 6)).block, (ad1.add (i * 6)).off + 3, none⟩ = some (.int .i64 y.f1.f0) ∧ X.cell? ⟨(ad1.add (i * 6)).block, (ad1.add (i * 6)).off + 4, none⟩ = some (.int .i64 y.f1.f1) ∧ X.cell? ⟨(ad1.add (i * 6)).block, (ad1.add (i * 6)).off + 5, none⟩ = some (.int .i64 y.f1.f2)) (ds := ([] : List Nat)) #[false, false, false, false, false, false] (by kernel_rfl) rfl rfl (HK.out _ rfl) (fun hHeld => ?_)
        refine take_ (i := 0) (N := some 19) (v := ?_) (a' := ?_) #[true, false, false, false, false, false] rfl rfl (by kernel_rfl) (fun _ _ _ h => h) (Or.inl ⟨by rfl, ?_⟩) hHeld ?_ ?_
        rotate_left
        · rintro w' ⟨s0_, s1_, s2_, s3_, s4_, s5_, s6_, s7_, s8_, s9_, s10_, s11_⟩
          go_simp
          with_reducible rfl
        rotate_left
        · simp only [Act.put, List.setIfInBounds_toArray, List.set_cons_zero, List.set_cons_succ, i64_w, i32_w]
          rfl
        refine pure_ (i := 1) (N := some 20) (v := ?_) (a' := ?_) #[true, true, false, false, false, false] rfl rfl (by kernel_rfl) (fun _ _ _ h => h) (Or.inl ⟨by rfl, ?_⟩) ?_ ?_
        rotate_left
        · intro w'
          go_simp
          with_reducible rfl
        rotate_left
        · simp only [Act.put, List.setIfInBounds_toArray, List.set_cons_zero, List.set_cons_succ, i64_w, i32_w]
          rfl
        refine pure_ (i := 2) (N := some 21) (v := ?_) (a' := ?_) #[true, true, true, false, false, false] rfl rfl (by kernel_rfl) (fun _ _ _ h => h) (Or.inl ⟨by rfl, ?_⟩) ?_ ?_
        rotate_left
        · intro w'
          go_simp
          with_reducible rfl
        rotate_left
        · simp only [Act.put, List.setIfInBounds_toArray, List.set_cons_zero, List.set_cons_succ, i64_w, i32_w]
          rfl
        refine pure_ (i := 3) (N := some 22) (v := ?_) (a' := ?_) #[true, true, true, true, false, false] rfl rfl (by kernel_rfl) (fun _ _ _ h => h) (Or.inl ⟨by rfl, ?_⟩) ?_ ?_
        rotate_left
        · intro w'
          go_simp
          with_reducible rfl
        rotate_left
        · simp only [Act.put, List.setIfInBounds_toArray, List.set_cons_zero, List.set_cons_succ, i64_w, i32_w]
          rfl
        refine take_ (i := 4) (N := some 23) (v := ?_) (a' := ?_) #[true, true, true, true, true, false] rfl rfl (by kernel_rfl) (fun _ _ _ h => h) (Or.inl ⟨by rfl, ?_⟩) hHeld ?_ ?_
        rotate_left
        · rintro w' ⟨s0_, s1_, s2_, s3_, s4_, s5_, s6_, s7_, s8_, s9_, s10_, s11_⟩
          go_simp
          with_reducible rfl
        rotate_left
        · simp only [Act.put, List.setIfInBounds_toArray, List.set_cons_zero, List.set_cons_succ, i64_w, i32_w]
          rfl
        refine pure_ (i := 5) (N := some 24) (v := .bool (neE x y)) (a' := ?anew) #[true, true, true, true, true, true] rfl rfl (by kernel_rfl) (fun _ _ _ h => h) (Or.inl ⟨by rfl, ?arun⟩) ?aput ?arest
        case aput =>
          simp only [Act.put, List.setIfInBounds_toArray, List.set_cons_zero, List.set_cons_succ, i64_w, i32_w]
          rfl
        case arun =>
          intro w'
          go_simp
          unfold neE
          (repeat' split) <;> simp_all
        refine done_ (by kernel_rfl) ?_
        clear hHeld
        obtain ⟨b, hb⟩ : ∃ b, neE x y = b := ⟨_, rfl⟩
        rw [hb] at HSTEP ⊢
        clear hb
        cases b with
        | true =>
          go_wp2
          go_ret
          exact ⟨by rw [hA.out.2, HSTEP.out]; rfl, hA.out.1.trans (below_drew1 (HBK.out.mono hA.out.1.size))⟩
        | false =>
          go_wp2
          go_roundg k1
          case measure => omega
          case rel => exact ⟨i + 1, by first | rfl | (rw [wrap_id (by omega) (by have := HM.out; omega)]; rfl), by omega, ⟨hA.out.1.trans (below_drew1 (HBK.out.mono hA.out.1.size)), by rw [hA.out.2, HSTEP.out]; rfl⟩⟩
  · have z0 : ((l0.length : Int) != (l1.length : Int)) = true := bne_iff_ne.2 (by omega)
    have z1 : (l0.length != l1.length) = true := bne_iff_ne.2 hl
    have z2 : ((l0.length : Int) == (l1.length : Int)) = false := beq_eq_false_iff_ne.2 (by omega)
    have z3 : (l0.length == l1.length) = false := beq_eq_false_iff_ne.2 hl
    have HF := Aside0.mk (show eqEP l0 l1 = false by unfold eqEP; rw [if_neg hl])
    clear hl
    go_enter Try.func19, Try.ntmps19
    go_wp2
    go_ret
    exact ⟨by rw [HF.out]; rfl, Below.refl _ _⟩
end
def api_QEdge_19.f (l0 : List S44) (l1 : List S44) : Option Bool := some (eqEP l0 l1)
theorem api_QEdge_19.calls (A0 : Option Addr) (c0 : Nat) (l0 : List (S44)) (A1 : Option Addr) (c1 : Nat) (l1 : List (S44)) (r : Bool) (w : World) (hr0 : Kd.C k44 w A0 l0.length l0) (hc0 : l0.length ≤ c0) (hr1 : Kd.C k44 w A1 l1.length l1) (hc1 : l1.length ≤ c1) (h : api_QEdge_19.f l0 l1 = some r) :
    Calls Try.prog 19 #[.slice A0 l0.length c0, .slice A1 l1.length c1] w fun e w' => e = .returned (.bool r) ∧ Below w.heap.size w w' := by
  obtain rfl := Option.some.inj h
  exact eqE_calls A0 c0 l0 A1 c1 l1 w hr0 hr1

/-! ### api_QEdge_45: function 45 -/
def api_QEdge_45.l0 : Nat → List (S44) → Int → Int → Int → Int → Int → Int → Int → Int → Option (Int)
  | 0, _, _, _, _, _, _, _, _, _ => none
  | k + 1, x7, x8, x9, x205000, x205001, x205002, x205003, x205004, x205005 => if x9 < x8 then (if 0 ≤ x9 then (if x9 < (x7.length : Int) then (if ((x205000 == ((rd_T44 x7 x9).f0.f0) && (x205001 == ((rd_T44 x7 x9).f0.f1) && (x205002 == ((rd_T44 x7 x9).f0.f2)))) && ((x205003 == ((rd_T44 x7 x9).f1.f0) && (x205004 == ((rd_T44 x7 x9).f1.f1) && (x205005 == ((rd_T44 x7 x9).f1.f2)))))) = true then (some x9) else (api_QEdge_45.l0 k x7 x8 (wrap64 (x9 + 1)) x205000 x205001 x205002 x205003 x205004 x205005)) else (none)) else (none)) else (some (-1))
def api_QEdge_45.f (k : Nat) (l0 : List (S44)) (a1_0 : Int) (a1_1 : Int) (a1_2 : Int) (a1_3 : Int) (a1_4 : Int) (a1_5 : Int) : Option (Int) := api_QEdge_45.l0 k l0 (l0.length : Int) 0 a1_0 a1_1 a1_2 a1_3 a1_4 a1_5
theorem api_QEdge_45.mono_l : ∀ k, (∀ y0 y1 y2 y3 y4 y5 y6 y7 y8, LeO (api_QEdge_45.l0 k y0 y1 y2 y3 y4 y5 y6 y7 y8) (api_QEdge_45.l0 (k + 1) y0 y1 y2 y3 y4 y5 y6 y7 y8))
  | 0 => fun _ _ _ _ _ _ _ _ _ r h => by simp [api_QEdge_45.l0] at h
  | k + 1 => by
    have ih0 := api_QEdge_45.mono_l k
    · intro y0 y1 y2 y3 y4 y5 y6 y7 y8
      unfold api_QEdge_45.l0
      repeat' first
      | (with_reducible exact ih0 _ _ _ _ _ _ _ _ _)
      | (with_reducible exact LeO.refl _)
      | (with_reducible exact LeO.none _)
      | (with_reducible refine LeO.ite ?_ ?_)
      | (with_reducible refine LeO.bind ?_ (fun _ => ?_))
      | exact ih0 _ _ _ _ _ _ _ _ _
      | exact LeO.none _
      | refine LeO.ite ?_ ?_
      | refine LeO.bind ?_ (fun _ => ?_)
theorem api_QEdge_45.mono : ∀ a0 a1 a2 a3 a4 a5 a6 k, LeO (api_QEdge_45.f k a0 a1 a2 a3 a4 a5 a6) (api_QEdge_45.f (k + 1) a0 a1 a2 a3 a4 a5 a6) := by
  intro a0 a1 a2 a3 a4 a5 a6 k
  have ih0 := api_QEdge_45.mono_l k
  unfold api_QEdge_45.f
  repeat' first
      | (with_reducible exact ih0 _ _ _ _ _ _ _ _ _)
      | (with_reducible exact LeO.refl _)
      | (with_reducible exact LeO.none _)
      | (with_reducible refine LeO.ite ?_ ?_)
      | (with_reducible refine LeO.bind ?_ (fun _ => ?_))
      | exact ih0 _ _ _ _ _ _ _ _ _
      | exact LeO.none _
      | refine LeO.ite ?_ ?_
      | refine LeO.bind ?_ (fun _ => ?_)
set_option maxHeartbeats 8000000 in
set_option maxRecDepth 100000 in
theorem api_QEdge_45.calls (k : Nat) (A0 : Option Addr) (c0 : Nat) (l0 : List (S44)) (a1_0 : Int) (a1_1 : Int) (a1_2 : Int) (a1_3 : Int) (a1_4 : Int) (a1_5 : Int) (r : Int) (w : World) (hr0 : Kd.C k44 w A0 l0.length l0) (hc0 : l0.length ≤ c0) (h : api_QEdge_45.f k l0 a1_0 a1_1 a1_2 a1_3 a1_4 a1_5 = some r) :
    Calls Try.prog 45 #[.slice A0 l0.length c0, .agg #[.int .i64 a1_0, .int .i64 a1_1, .int .i64 a1_2, .int .i64 a1_3, .int .i64 a1_4, .int .i64 a1_5]] w fun e w' => e = .returned (.int .i64 r) ∧ Below w.heap.size w w' := by
  have hu44 := Try.underlying44
  have HR0 := Aside0.mk hr0
  have HC0 := Aside0.mk hc0
  clear hr0 hc0
  have HB := Aside0.mk (Below.refl w.heap.size w)
  have H : (api_QEdge_45.l0 k l0 (l0.length : Int) 0 a1_0 a1_1 a1_2 a1_3 a1_4 a1_5) = some r := h
  clear h
  have H' := Aside0.mk H
  clear H
  go_enter Try.func45, Try.ntmps45
  go_wp2_with (first | ((with_reducible refine gate_dst (N := 3) rfl ?_); refine box_event ?hg (N := 3) ?hd (cs := #[.int .i64 a1_0, .int .i64 a1_1, .int .i64 a1_2, .int .i64 a1_3, .int .i64 a1_4, .int .i64 a1_5]) (t := 44) ?hr ?_; (case hd => rfl); (case hg => rfl); (case hr => first | (go_simp; done) | (go_simp; rfl)); intro gb204 hg w3 hbox hb; have n0_ := Aside0.mk (below_step (by repeat (first | (with_reducible first | exact HB.out | apply below_alloc | apply pw_below_drewN | apply below_drew1) | exact HB.out)) hb); have n1_ := Aside0.mk (hbox); have n2_ := Aside0.mk ((by rw [hg]; exact (below_size (by repeat (first | (with_reducible first | exact HB.out | apply below_alloc | apply pw_below_drewN | apply below_drew1) | exact HB.out))) : w.heap.size ≤ gb204)); have n3_ := Aside0.mk ((by rw [hg]; exact (below_size (by repeat (first | (with_reducible first | exact HB.out | apply below_alloc | apply pw_below_drewN | apply below_drew1) | exact HB.out))) : w.heap.size ≤ gb204)); clear HB; have HB := n0_; have BK204 := n1_; have GW204 := n2_; have GE204 := n3_; clear n0_ n1_ n2_ n3_; clear hb hbox hg))
  go_loopg [9] k (fun kq v9 w' => ∃ (x9_1 : Int), v9 = .int .i64 x9_1 ∧ Aside0 (api_QEdge_45.l0 kq l0 (l0.length : Int) x9_1 a1_0 a1_1 a1_2 a1_3 a1_4 a1_5 = some r) ∧ Aside0 (kq ≤ k) ∧ Aside0 (w'.heap[gb204]? = some (.cells #[.int .i64 a1_0, .int .i64 a1_1, .int .i64 a1_2, .int .i64 a1_3, .int .i64 a1_4, .int .i64 a1_5] 44 (0, 0))) ∧ Aside0 (Below w.heap.size w w'))
  case atStart => exact ⟨(0), (by first | rfl | (simp; done) | (simp [*]; done) | (simp [isEmpty_bne]; done)), H', ⟨Nat.le_refl _⟩, ⟨by (with_reducible repeat (first | refine blk_drewN ?_ _ | refine blk_drew ?_ | refine blk_alloc ?_ _)); exact BK204.out⟩, ⟨by repeat (first | (with_reducible first | exact HB.out | apply below_alloc | apply pw_below_drewN | apply below_drew1 | refine below_set ?_ GE204.out) | exact HB.out)⟩⟩
  case round =>
    clear H'
    try clear p2
    obtain ⟨x9_1, rfl, HA, HK1, BK204, HB⟩ := hrel
    cases gk with
    | zero => exact absurd HA.out (by simp [api_QEdge_45.l0])
    | succ k1 =>
      have H := HA.out
      clear HA
      simp only [api_QEdge_45.l0] at H
      by_cases c4 : x9_1 < (l0.length : Int)
      · rw [if_pos c4] at H
        have c4b0 : decide (x9_1 < (l0.length : Int)) = true := decide_eq_true c4
        clear c4
        by_cases c5 : 0 ≤ x9_1
        · rw [if_pos c5] at H
          have c5b0 : decide (0 ≤ x9_1) = true := decide_eq_true c5
          clear c5
          by_cases c6 : x9_1 < (l0.length : Int)
          · rw [if_pos c6] at H
            have c6b0 : decide (x9_1 < (l0.length : Int)) = true := decide_eq_true c6
            clear c6
            by_cases c7 : ((a1_0 == ((rd_T44 l0 x9_1).f0.f0) && (a1_1 == ((rd_T44 l0 x9_1).f0.f1) && (a1_2 == ((rd_T44 l0 x9_1).f0.f2)))) && ((a1_3 == ((rd_T44 l0 x9_1).f1.f0) && (a1_4 == ((rd_T44 l0 x9_1).f1.f1) && (a1_5 == ((rd_T44 l0 x9_1).f1.f2)))))) = true
            · rw [if_pos c7] at H
              have c7b0 : ((a1_0 == ((rd_T44 l0 x9_1).f0.f0) && (a1_1 == ((rd_T44 l0 x9_1).f0.f1) && (a1_2 == ((rd_T44 l0 x9_1).f0.f2)))) && ((a1_3 == ((rd_T44 l0 x9_1).f1.f0) && (a1_4 == ((rd_T44 l0 x9_1).f1.f1) && (a1_5 == ((rd_T44 l0 x9_1).f1.f2)))))) = true := c7
              clear c7
              obtain rfl := Option.some.inj H
              have p205 : 0 ≤ (x9_1 : Int) := of_decide_eq_true (by first | (with_reducible assumption) | assumption)
              have q205 : x9_1 < (l0.length : Int) := of_decide_eq_true (by first | (with_reducible assumption) | assumption)
              obtain ⟨ad205, e205, hx205_0, hx205_1, hx205_2, hx205_3, hx205_4, hx205_5⟩ := at_T44 HR0.out x9_1 p205 q205
              cases e205
              replace hx205_0 := (HB.out.cell (World.block_lt_of_cell? w _ hx205_0)).trans hx205_0
              replace hx205_1 := (HB.out.cell (World.block_lt_of_cell? w _ hx205_1)).trans hx205_1
              replace hx205_2 := (HB.out.cell (World.block_lt_of_cell? w _ hx205_2)).trans hx205_2
              replace hx205_3 := (HB.out.cell (World.block_lt_of_cell? w _ hx205_3)).trans hx205_3
              replace hx205_4 := (HB.out.cell (World.block_lt_of_cell? w _ hx205_4)).trans hx205_4
              replace hx205_5 := (HB.out.cell (World.block_lt_of_cell? w _ hx205_5)).trans hx205_5
              replace p205 := eq_true p205
              replace q205 := eq_true q205
              go_wp2_with (first | ((with_reducible refine gate_dst (N := 6) rfl ?_); refine box_event ?hg (N := 6) ?hd (cs := #[.int .i64 0, .int .i64 0, .int .i64 0, .int .i64 0, .int .i64 0, .int .i64 0]) (t := 44) ?hr ?_; (case hd => rfl); (case hg => rfl); (case hr => first | (go_simp; done) | (go_simp; rfl)); intro gb206 hg w8 hbox hb; have n0_ := Aside0.mk (blk_below (g := gb204) (o := .cells #[.int .i64 a1_0, .int .i64 a1_1, .int .i64 a1_2, .int .i64 a1_3, .int .i64 a1_4, .int .i64 a1_5] 44 (0, 0)) (by (with_reducible repeat (first | refine blk_drewN ?_ _ | refine blk_drew ?_ | refine blk_alloc ?_ _)); exact BK204.out) hb); have n1_ := Aside0.mk (below_step (by repeat (first | (with_reducible first | exact HB.out | apply below_alloc | apply pw_below_drewN | apply below_drew1 | refine below_set ?_ GE204.out) | exact HB.out)) hb); have n2_ := Aside0.mk (hbox); have n3_ := Aside0.mk ((by rw [hg]; exact (below_size (by repeat (first | (with_reducible first | exact HB.out | apply below_alloc | apply pw_below_drewN | apply below_drew1 | refine below_set ?_ GE204.out) | exact HB.out))) : w.heap.size ≤ gb206)); have n4_ := Aside0.mk ((by rw [hg]; exact (below_size (by repeat (first | (with_reducible first | exact HB.out | apply below_alloc | apply pw_below_drewN | apply below_drew1 | refine below_set ?_ GE204.out) | exact HB.out))) : w.heap.size ≤ gb206)); have n5_ := Aside0.mk ((by rw [hg]; exact Nat.ne_of_lt (blk_lt (g := gb204) (o := .cells #[.int .i64 a1_0, .int .i64 a1_1, .int .i64 a1_2, .int .i64 a1_3, .int .i64 a1_4, .int .i64 a1_5] 44 (0, 0)) (by (with_reducible repeat (first | refine blk_drewN ?_ _ | refine blk_drew ?_ | refine blk_alloc ?_ _)); exact BK204.out)) : gb204 ≠ gb206)); have n6_ := Aside0.mk ((by rw [hg]; exact Nat.ne_of_gt (blk_lt (g := gb204) (o := .cells #[.int .i64 a1_0, .int .i64 a1_1, .int .i64 a1_2, .int .i64 a1_3, .int .i64 a1_4, .int .i64 a1_5] 44 (0, 0)) (by (with_reducible repeat (first | refine blk_drewN ?_ _ | refine blk_drew ?_ | refine blk_alloc ?_ _)); exact BK204.out)) : gb206 ≠ gb204)); clear BK204; clear HB; have BK204 := n0_; have HB := n1_; have BK206 := n2_; have GW206 := n3_; have GE206 := n4_; have NB204_206 := n5_; have NB206_204 := n6_; clear n0_ n1_ n2_ n3_ n4_ n5_ n6_; clear hb hbox hg; have hnb9 := NB206_204.out; have hnc9 := NB204_206.out; have hcz10_0 : w8.cell? ⟨gb206, 0, none⟩ = some (.int .i64 0) := (blk_cell BK206.out 0).trans rfl; have hcz10_1 : w8.cell? ⟨gb206, 1, none⟩ = some (.int .i64 0) := (blk_cell BK206.out 1).trans rfl; have hcz10_2 : w8.cell? ⟨gb206, 2, none⟩ = some (.int .i64 0) := (blk_cell BK206.out 2).trans rfl; have hcz10_3 : w8.cell? ⟨gb206, 3, none⟩ = some (.int .i64 0) := (blk_cell BK206.out 3).trans rfl; have hcz10_4 : w8.cell? ⟨gb206, 4, none⟩ = some (.int .i64 0) := (blk_cell BK206.out 4).trans rfl; have hcz10_5 : w8.cell? ⟨gb206, 5, none⟩ = some (.int .i64 0) := (blk_cell BK206.out 5).trans rfl; have hfz10_0 := blk_frozen BK206.out 0; have hfz10_1 := blk_frozen BK206.out 1; have hfz10_2 := blk_frozen BK206.out 2; have hfz10_3 := blk_frozen BK206.out 3; have hfz10_4 := blk_frozen BK206.out 4; have hfz10_5 := blk_frozen BK206.out 5; have hcz11_0 : w8.cell? ⟨gb204, 0, none⟩ = some (.int .i64 a1_0) := (blk_cell BK204.out 0).trans rfl; have hcz11_1 : w8.cell? ⟨gb204, 1, none⟩ = some (.int .i64 a1_1) := (blk_cell BK204.out 1).trans rfl; have hcz11_2 : w8.cell? ⟨gb204, 2, none⟩ = some (.int .i64 a1_2) := (blk_cell BK204.out 2).trans rfl; have hcz11_3 : w8.cell? ⟨gb204, 3, none⟩ = some (.int .i64 a1_3) := (blk_cell BK204.out 3).trans rfl; have hcz11_4 : w8.cell? ⟨gb204, 4, none⟩ = some (.int .i64 a1_4) := (blk_cell BK204.out 4).trans rfl; have hcz11_5 : w8.cell? ⟨gb204, 5, none⟩ = some (.int .i64 a1_5) := (blk_cell BK204.out 5).trans rfl; have hfz11_0 := blk_frozen BK204.out 0; have hfz11_1 := blk_frozen BK204.out 1; have hfz11_2 := blk_frozen BK204.out 2; have hfz11_3 := blk_frozen BK204.out 3; have hfz11_4 := blk_frozen BK204.out 4; have hfz11_5 := blk_frozen BK204.out 5))
              go_ret
              exact ⟨by first | rfl | (simp [errW_none, errW_some] <;> rfl) | (simp [*, errW_none, errW_some] <;> rfl), by repeat (first | (with_reducible first | exact HB.out | apply below_alloc | apply pw_below_drewN | apply below_drew1 | refine below_set ?_ GE204.out | refine below_set ?_ GE206.out) | exact HB.out)⟩
            · rw [if_neg c7] at H
              have c7b0 : ((a1_0 == ((rd_T44 l0 x9_1).f0.f0) && (a1_1 == ((rd_T44 l0 x9_1).f0.f1) && (a1_2 == ((rd_T44 l0 x9_1).f0.f2)))) && ((a1_3 == ((rd_T44 l0 x9_1).f1.f0) && (a1_4 == ((rd_T44 l0 x9_1).f1.f1) && (a1_5 == ((rd_T44 l0 x9_1).f1.f2)))))) = false := by simpa using c7
              clear c7
              have H' := Aside0.mk H
              clear H
              have p205 : 0 ≤ (x9_1 : Int) := of_decide_eq_true (by first | (with_reducible assumption) | assumption)
              have q205 : x9_1 < (l0.length : Int) := of_decide_eq_true (by first | (with_reducible assumption) | assumption)
              obtain ⟨ad205, e205, hx205_0, hx205_1, hx205_2, hx205_3, hx205_4, hx205_5⟩ := at_T44 HR0.out x9_1 p205 q205
              cases e205
              replace hx205_0 := (HB.out.cell (World.block_lt_of_cell? w _ hx205_0)).trans hx205_0
              replace hx205_1 := (HB.out.cell (World.block_lt_of_cell? w _ hx205_1)).trans hx205_1
              replace hx205_2 := (HB.out.cell (World.block_lt_of_cell? w _ hx205_2)).trans hx205_2
              replace hx205_3 := (HB.out.cell (World.block_lt_of_cell? w _ hx205_3)).trans hx205_3
              replace hx205_4 := (HB.out.cell (World.block_lt_of_cell? w _ hx205_4)).trans hx205_4
              replace hx205_5 := (HB.out.cell (World.block_lt_of_cell? w _ hx205_5)).trans hx205_5
              replace p205 := eq_true p205
              replace q205 := eq_true q205
              go_wp2_with (first | ((with_reducible refine gate_dst (N := 6) rfl ?_); refine box_event ?hg (N := 6) ?hd (cs := #[.int .i64 0, .int .i64 0, .int .i64 0, .int .i64 0, .int .i64 0, .int .i64 0]) (t := 44) ?hr ?_; (case hd => rfl); (case hg => rfl); (case hr => first | (go_simp; done) | (go_simp; rfl)); intro gb206 hg w12 hbox hb; have n0_ := Aside0.mk (blk_below (g := gb204) (o := .cells #[.int .i64 a1_0, .int .i64 a1_1, .int .i64 a1_2, .int .i64 a1_3, .int .i64 a1_4, .int .i64 a1_5] 44 (0, 0)) (by (with_reducible repeat (first | refine blk_drewN ?_ _ | refine blk_drew ?_ | refine blk_alloc ?_ _)); exact BK204.out) hb); have n1_ := Aside0.mk (below_step (by repeat (first | (with_reducible first | exact HB.out | apply below_alloc | apply pw_below_drewN | apply below_drew1 | refine below_set ?_ GE204.out) | exact HB.out)) hb); have n2_ := Aside0.mk (hbox); have n3_ := Aside0.mk ((by rw [hg]; exact (below_size (by repeat (first | (with_reducible first | exact HB.out | apply below_alloc | apply pw_below_drewN | apply below_drew1 | refine below_set ?_ GE204.out) | exact HB.out))) : w.heap.size ≤ gb206)); have n4_ := Aside0.mk ((by rw [hg]; exact (below_size (by repeat (first | (with_reducible first | exact HB.out | apply below_alloc | apply pw_below_drewN | apply below_drew1 | refine below_set ?_ GE204.out) | exact HB.out))) : w.heap.size ≤ gb206)); have n5_ := Aside0.mk ((by rw [hg]; exact Nat.ne_of_lt (blk_lt (g := gb204) (o := .cells #[.int .i64 a1_0, .int .i64 a1_1, .int .i64 a1_2, .int .i64 a1_3, .int .i64 a1_4, .int .i64 a1_5] 44 (0, 0)) (by (with_reducible repeat (first | refine blk_drewN ?_ _ | refine blk_drew ?_ | refine blk_alloc ?_ _)); exact BK204.out)) : gb204 ≠ gb206)); have n6_ := Aside0.mk ((by rw [hg]; exact Nat.ne_of_gt (blk_lt (g := gb204) (o := .cells #[.int .i64 a1_0, .int .i64 a1_1, .int .i64 a1_2, .int .i64 a1_3, .int .i64 a1_4, .int .i64 a1_5] 44 (0, 0)) (by (with_reducible repeat (first | refine blk_drewN ?_ _ | refine blk_drew ?_ | refine blk_alloc ?_ _)); exact BK204.out)) : gb206 ≠ gb204)); clear BK204; clear HB; have BK204 := n0_; have HB := n1_; have BK206 := n2_; have GW206 := n3_; have GE206 := n4_; have NB204_206 := n5_; have NB206_204 := n6_; clear n0_ n1_ n2_ n3_ n4_ n5_ n6_; clear hb hbox hg; have hnb13 := NB206_204.out; have hnc13 := NB204_206.out; have hcz14_0 : w12.cell? ⟨gb206, 0, none⟩ = some (.int .i64 0) := (blk_cell BK206.out 0).trans rfl; have hcz14_1 : w12.cell? ⟨gb206, 1, none⟩ = some (.int .i64 0) := (blk_cell BK206.out 1).trans rfl; have hcz14_2 : w12.cell? ⟨gb206, 2, none⟩ = some (.int .i64 0) := (blk_cell BK206.out 2).trans rfl; have hcz14_3 : w12.cell? ⟨gb206, 3, none⟩ = some (.int .i64 0) := (blk_cell BK206.out 3).trans rfl; have hcz14_4 : w12.cell? ⟨gb206, 4, none⟩ = some (.int .i64 0) := (blk_cell BK206.out 4).trans rfl; have hcz14_5 : w12.cell? ⟨gb206, 5, none⟩ = some (.int .i64 0) := (blk_cell BK206.out 5).trans rfl; have hfz14_0 := blk_frozen BK206.out 0; have hfz14_1 := blk_frozen BK206.out 1; have hfz14_2 := blk_frozen BK206.out 2; have hfz14_3 := blk_frozen BK206.out 3; have hfz14_4 := blk_frozen BK206.out 4; have hfz14_5 := blk_frozen BK206.out 5; have hcz15_0 : w12.cell? ⟨gb204, 0, none⟩ = some (.int .i64 a1_0) := (blk_cell BK204.out 0).trans rfl; have hcz15_1 : w12.cell? ⟨gb204, 1, none⟩ = some (.int .i64 a1_1) := (blk_cell BK204.out 1).trans rfl; have hcz15_2 : w12.cell? ⟨gb204, 2, none⟩ = some (.int .i64 a1_2) := (blk_cell BK204.out 2).trans rfl; have hcz15_3 : w12.cell? ⟨gb204, 3, none⟩ = some (.int .i64 a1_3) := (blk_cell BK204.out 3).trans rfl; have hcz15_4 : w12.cell? ⟨gb204, 4, none⟩ = some (.int .i64 a1_4) := (blk_cell BK204.out 4).trans rfl; have hcz15_5 : w12.cell? ⟨gb204, 5, none⟩ = some (.int .i64 a1_5) := (blk_cell BK204.out 5).trans rfl; have hfz15_0 := blk_frozen BK204.out 0; have hfz15_1 := blk_frozen BK204.out 1; have hfz15_2 := blk_frozen BK204.out 2; have hfz15_3 := blk_frozen BK204.out 3; have hfz15_4 := blk_frozen BK204.out 4; have hfz15_5 := blk_frozen BK204.out 5))
              go_roundg k1
              case measure => have := HK1.out; omega
              case rel => exact ⟨(wrap64 (x9_1 + 1)), (by first | rfl | (simp; done) | (simp [*]; done) | (simp [isEmpty_bne]; done)), H', ⟨by have := HK1.out; omega⟩, ⟨by (with_reducible repeat (first | refine blk_drewN ?_ _ | refine blk_drew ?_ | refine blk_alloc ?_ _)); refine blk_far ?_ NB204_206.out _; (with_reducible repeat (first | refine blk_drewN ?_ _ | refine blk_drew ?_ | refine blk_alloc ?_ _)); refine blk_far ?_ NB204_206.out _; (with_reducible repeat (first | refine blk_drewN ?_ _ | refine blk_drew ?_ | refine blk_alloc ?_ _)); refine blk_far ?_ NB204_206.out _; (with_reducible repeat (first | refine blk_drewN ?_ _ | refine blk_drew ?_ | refine blk_alloc ?_ _)); refine blk_far ?_ NB204_206.out _; (with_reducible repeat (first | refine blk_drewN ?_ _ | refine blk_drew ?_ | refine blk_alloc ?_ _)); refine blk_far ?_ NB204_206.out _; (with_reducible repeat (first | refine blk_drewN ?_ _ | refine blk_drew ?_ | refine blk_alloc ?_ _)); refine blk_far ?_ NB204_206.out _; (with_reducible repeat (first | refine blk_drewN ?_ _ | refine blk_drew ?_ | refine blk_alloc ?_ _)); exact BK204.out⟩, ⟨by repeat (first | (with_reducible first | exact HB.out | apply below_alloc | apply pw_below_drewN | apply below_drew1 | refine below_set ?_ GE204.out | refine below_set ?_ GE206.out) | exact HB.out)⟩⟩
          · rw [if_neg c6] at H
            exact absurd H (by simp)
        · rw [if_neg c5] at H
          exact absurd H (by simp)
      · rw [if_neg c4] at H
        have c4b0 : decide (x9_1 < (l0.length : Int)) = false := decide_eq_false c4
        clear c4
        obtain rfl := Option.some.inj H
        go_wp2
        go_ret
        exact ⟨by first | rfl | (simp [errW_none, errW_some] <;> rfl) | (simp [*, errW_none, errW_some] <;> rfl), by repeat (first | (with_reducible first | exact HB.out | apply below_alloc | apply pw_below_drewN | apply below_drew1 | refine below_set ?_ GE204.out) | exact HB.out)⟩

/-! ### api_QEdge_35: function 35 -/
def api_QEdge_35.f (k : Nat) (l0 : List (S44)) (a1_0 : Int) (a1_1 : Int) (a1_2 : Int) (a1_3 : Int) (a1_4 : Int) (a1_5 : Int) : Option (Bool) := (api_QEdge_45.f k l0 a1_0 a1_1 a1_2 a1_3 a1_4 a1_5).bind fun t208 => (some (decide (t208 ≥ 0)))
theorem api_QEdge_35.mono : ∀ a0 a1 a2 a3 a4 a5 a6 k, LeO (api_QEdge_35.f k a0 a1 a2 a3 a4 a5 a6) (api_QEdge_35.f (k + 1) a0 a1 a2 a3 a4 a5 a6) := by
  intro a0 a1 a2 a3 a4 a5 a6 k
  unfold api_QEdge_35.f
  repeat' first
      | (with_reducible exact api_QEdge_45.mono _ _ _ _ _ _ _ _)
      | (with_reducible exact LeO.refl _)
      | (with_reducible exact LeO.none _)
      | (with_reducible refine LeO.ite ?_ ?_)
      | (with_reducible refine LeO.bind ?_ (fun _ => ?_))
      | exact api_QEdge_45.mono _ _ _ _ _ _ _ _
      | exact LeO.none _
      | refine LeO.ite ?_ ?_
      | refine LeO.bind ?_ (fun _ => ?_)
set_option maxHeartbeats 8000000 in
set_option maxRecDepth 100000 in
theorem api_QEdge_35.calls (k : Nat) (A0 : Option Addr) (c0 : Nat) (l0 : List (S44)) (a1_0 : Int) (a1_1 : Int) (a1_2 : Int) (a1_3 : Int) (a1_4 : Int) (a1_5 : Int) (r : Bool) (w : World) (hr0 : Kd.C k44 w A0 l0.length l0) (hc0 : l0.length ≤ c0) (h : api_QEdge_35.f k l0 a1_0 a1_1 a1_2 a1_3 a1_4 a1_5 = some r) :
    Calls Try.prog 35 #[.slice A0 l0.length c0, .agg #[.int .i64 a1_0, .int .i64 a1_1, .int .i64 a1_2, .int .i64 a1_3, .int .i64 a1_4, .int .i64 a1_5]] w fun e w' => e = .returned (.bool r) ∧ Below w.heap.size w w' := by
  have hu44 := Try.underlying44
  have HR0 := Aside0.mk hr0
  have HC0 := Aside0.mk hc0
  clear hr0 hc0
  have HB := Aside0.mk (Below.refl w.heap.size w)
  have H : ((api_QEdge_45.f k l0 a1_0 a1_1 a1_2 a1_3 a1_4 a1_5).bind fun t208 => (some (decide (t208 ≥ 0)))) = some r := h
  clear h
  replace H := Option.bind_eq_some_iff.mp H
  obtain ⟨t208, A30, H⟩ := H
  replace H : (some (decide (t208 ≥ 0))) = some r := H
  have A3 := Aside0.mk A30
  clear A30
  obtain rfl := Option.some.inj H
  go_enter Try.func35, Try.ntmps35
  go_wp2_with (first | ((with_reducible refine gate_dst (N := 3) rfl ?_); refine box_event ?hg (N := 3) ?hd (cs := #[.int .i64 a1_0, .int .i64 a1_1, .int .i64 a1_2, .int .i64 a1_3, .int .i64 a1_4, .int .i64 a1_5]) (t := 44) ?hr ?_; (case hd => rfl); (case hg => rfl); (case hr => first | (go_simp; done) | (go_simp; rfl)); intro gb207 hg w4 hbox hb; have n0_ := Aside0.mk (below_step (by repeat (first | (with_reducible first | exact HB.out | apply below_alloc | apply pw_below_drewN | apply below_drew1) | exact HB.out)) hb); have n1_ := Aside0.mk (hbox); have n2_ := Aside0.mk ((by rw [hg]; exact (below_size (by repeat (first | (with_reducible first | exact HB.out | apply below_alloc | apply pw_below_drewN | apply below_drew1) | exact HB.out))) : w.heap.size ≤ gb207)); have n3_ := Aside0.mk ((by rw [hg]; exact (below_size (by repeat (first | (with_reducible first | exact HB.out | apply below_alloc | apply pw_below_drewN | apply below_drew1) | exact HB.out))) : w.heap.size ≤ gb207)); clear HB; have HB := n0_; have BK207 := n1_; have GW207 := n2_; have GE207 := n3_; clear n0_ n1_ n2_ n3_; clear hb hbox hg; have hcz5_0 : w4.cell? ⟨gb207, 0, none⟩ = some (.int .i64 a1_0) := (blk_cell BK207.out 0).trans rfl; have hcz5_1 : w4.cell? ⟨gb207, 1, none⟩ = some (.int .i64 a1_1) := (blk_cell BK207.out 1).trans rfl; have hcz5_2 : w4.cell? ⟨gb207, 2, none⟩ = some (.int .i64 a1_2) := (blk_cell BK207.out 2).trans rfl; have hcz5_3 : w4.cell? ⟨gb207, 3, none⟩ = some (.int .i64 a1_3) := (blk_cell BK207.out 3).trans rfl; have hcz5_4 : w4.cell? ⟨gb207, 4, none⟩ = some (.int .i64 a1_4) := (blk_cell BK207.out 4).trans rfl; have hcz5_5 : w4.cell? ⟨gb207, 5, none⟩ = some (.int .i64 a1_5) := (blk_cell BK207.out 5).trans rfl; have hfz5_0 := blk_frozen BK207.out 0; have hfz5_1 := blk_frozen BK207.out 1; have hfz5_2 := blk_frozen BK207.out 2; have hfz5_3 := blk_frozen BK207.out 3; have hfz5_4 := blk_frozen BK207.out 4; have hfz5_5 := blk_frozen BK207.out 5) | ((with_reducible refine gate_callee (f := 45) rfl ?_); refine goesL_ (some 7) rfl rfl Try.func45 (by kernel_rfl) rfl #[.slice A0 l0.length c0, .agg #[.int .i64 a1_0, .int .i64 a1_1, .int .i64 a1_2, .int .i64 a1_3, .int .i64 a1_4, .int .i64 a1_5]] rfl (by (try simp only [List.map_toArray, List.map_cons, List.map_nil]); first | done | rfl | (simp only [List.length_drop, List.length_take]; rfl)) ?_; (with_reducible refine (api_QEdge_45.calls k _ _ l0 a1_0 a1_1 a1_2 a1_3 a1_4 a1_5 t208 _ ?side1 ?side2 A3.out).mono ?_); (case side1 => repeat (first | exact (Kd.C_below HR0.out HB.out) | (with_reducible refine Kd.C_alloc ?_ _) | (with_reducible refine Kd.C_drewN ?_ _) | (with_reducible refine Kd.C_drew ?_))); (case side2 => exact HC0.out); rintro e w6 ⟨rfl, hb⟩; refine ⟨_, rfl, ?_⟩; have n0_ := Aside0.mk (blk_below (g := gb207) (o := .cells #[.int .i64 a1_0, .int .i64 a1_1, .int .i64 a1_2, .int .i64 a1_3, .int .i64 a1_4, .int .i64 a1_5] 44 (0, 0)) (by (with_reducible repeat (first | refine blk_drewN ?_ _ | refine blk_drew ?_ | refine blk_alloc ?_ _)); exact BK207.out) hb); have n1_ := Aside0.mk (below_step (by repeat (first | (with_reducible first | exact HB.out | apply below_alloc | apply pw_below_drewN | apply below_drew1 | refine below_set ?_ GE207.out) | exact HB.out)) hb); clear BK207; clear HB; have BK207 := n0_; have HB := n1_; clear n0_ n1_; (try clear hb); (try clear hb2); (try clear hk); (try clear hi)))
  go_ret
  exact ⟨by first | rfl | (simp [errW_none, errW_some] <;> rfl) | (simp [*, errW_none, errW_some] <;> rfl), by repeat (first | (with_reducible first | exact HB.out | apply below_alloc | apply pw_below_drewN | apply below_drew1 | refine below_set ?_ GE207.out) | exact HB.out)⟩

end Go.Proofs.Ytofonbfpjfabbaa.QDepgraphReduction
