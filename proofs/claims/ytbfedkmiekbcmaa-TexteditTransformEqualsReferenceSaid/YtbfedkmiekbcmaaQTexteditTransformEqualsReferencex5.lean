-- Written by gen.py (this repo's wip/), which runs the kit's print.py with more arms. Lean checks it.
import Derived.Test.YtbfedkmiekbcmaaQTexteditTransformEqualsReferencex0
import Derived.Test.YtbfedkmiekbcmaaQTexteditTransformEqualsReferencex2
import Derived.Test.YtbfedkmiekbcmaaQTexteditTransformEqualsReferencex3
namespace Go.Proofs.Ytbfedkmiekbcmaa.QTexteditTransformEqualsReference
open Go.RowKit Go.Proofs.YtbfedkmiekbcmaaW.PrintWords Go.Proofs.YtbfedkmiekbcmaaW.PrintLast Go.Proofs.YtbfedkmiekbcmaaW.PrintMore
attribute [local go_sem] max2_int min2_int max_two min_two max_three min_three max_four min_four   -- for this text's walks alone
set_option linter.unusedVariables false
set_option linter.unusedSimpArgs false

section
open Go.Proofs.Ytbfedkmiekbcmaa.Hand
/-- A merger's edits, as its block tells them. -/
def MerE (w0 : World) (mb : Nat) (me : List S137) (mo : Int) (u : Value) (W : World) : Prop :=
  ∃ ME cm, W.heap[mb]? = some (.cells #[.slice ME me.length cm, .int .i64 mo, u] 197 (0, 0)) ∧ me.length ≤ cm ∧ Kd.C k137 w0 ME me.length me ∧ Below w0.heap.size w0 W ∧ w0.heap.size ≤ mb
def delP (i : Int) : List S137 → List S137
  | [] => []
  | e :: t => if e.f1 ≤ i then delP i t else e :: t
def delB (i : Int) : List S137 → Bool
  | [] => false
  | e :: _ => decide (e.f0 ≤ i)
set_option maxRecDepth 100000 in
set_option maxHeartbeats 4000000 in
theorem deletes_calls (w0 : World) (mb : Nat) (me : List S137) (mo : Int) (u : Value) (i : Int) (W : World) (h : MerE w0 mb me mo u W) :
    Calls Try.prog 120 #[.pointer (some ⟨mb, 0, none⟩), .int .i64 i] W fun e w' => e = .returned (.bool (delB i (delP i me))) ∧ MerE w0 mb (delP i me) mo u w' ∧ Chg (fun k => k = mb) W w' := by
  have H := Aside0.mk h
  clear h
  go_enter Try.func120, Try.ntmps120
  go_wp2
  go_loopg [] me.length (fun kq W' => ∃ ms : List S137, kq = ms.length ∧ delP i ms = delP i me ∧ Aside0 (MerE w0 mb ms mo u W' ∧ Chg (fun k => k = mb) W W'))
  case atStart =>
    exact ⟨me, rfl, rfl, ⟨H.out, Chg.refl _ _⟩⟩
  case round =>
    obtain ⟨ms, hk, hd, hR⟩ := hrel
    obtain ⟨⟨ME, cm, h1, h2, h3, h4, h5⟩, hch⟩ := hR.out
    cases ms with
    | nil =>
      have x0 : wr.cell? ⟨mb, 0, none⟩ = some (.slice ME 0 cm) := (cells_of_blk h1 0).trans rfl
      have HR := Aside0.mk hR.out
      clear h1 h2 h3 h4 h5 hch hR
      go_wp2
      go_ret
      rw [← hd]
      exact ⟨rfl, HR.out⟩
    | cons e t =>
      obtain ⟨ad, hA, e0, e1, e2⟩ := at_T137 (Kd.C_below h3 h4) 0 (by omega) (by simp)
      have hq : rd_T137 (e :: t) 0 = e := rfl
      rw [hq] at e0 e1 e2
      have ha : ad.add (Int.toNat 0 * 3) = ad := rfl
      rw [ha] at e0 e1 e2
      subst hA
      obtain ⟨m, hm⟩ : ∃ m, (e :: t).length = m := ⟨_, rfl⟩
      have hm2 : m = t.length + 1 := by rw [← hm]; rfl
      rw [hm] at h1 h2 h3
      have x0 : wr.cell? ⟨mb, 0, none⟩ = some (.slice (some ad) m cm) := (cells_of_blk h1 0).trans rfl
      have f0 := free_of_blk h1 0
      have b1 : decide ((m : Int) > 0) = true := by simp; omega
      have b2 : decide (0 < m) = true := by simp; omega
      have p1 : (0 < m) = True := eq_true (by omega)
      have p2 : (1 ≤ m) = True := eq_true (by omega)
      by_cases c : e.f1 ≤ i
      · have b3 : decide (e.f1 ≤ i) = true := by simp [c]
        rw [delP, if_pos c] at hd
        have hcut := cut_from (P := Try.prog) 57 137 .i64 Try.underlying57 (i := Try.t137) rfl 3 rfl (some ad) m cm 1 (by omega) (by omega)
        have hsub := Kd.C_drop (m := 1) (c := cm) (k := k137) (w := w0) (A := some ad) (xs := e :: t) (by rw [hm]; exact h3) (by rw [hm]; omega) (by rw [hm]; exact h2)
        rw [show k137.sz = 3 from rfl, show (e :: t).drop 1 = t from rfl] at hsub
        rw [show (1 : Int).toNat = 1 from rfl] at hcut
        obtain ⟨A2, hA2⟩ : ∃ A2, (if cm = 1 then some ad else (some ad).map (·.add (1 * 3))) = A2 := ⟨_, rfl⟩
        rw [hA2] at hsub
        simp only [hA2] at hcut
        have hm3 : m - 1 = t.length := by omega
        have HN : Aside0 (MerE w0 mb t mo u (wr.setCell ⟨mb, 0, none⟩ (.slice A2 (m - 1) (cm - 1))) ∧ Chg (fun k => k = mb) W (wr.setCell ⟨mb, 0, none⟩ (.slice A2 (m - 1) (cm - 1)))) :=
          ⟨⟨A2, cm - 1, by rw [hm3]; exact hb_set h1 0 _, by omega, hsub, h4.setCell (p := ⟨mb, 0, none⟩) h5 _, h5⟩, hch.trans (Chg.set wr ⟨mb, 0, none⟩ _ (show mb = mb from rfl) : Chg (fun k => k = mb) wr _) (fun _ _ h => h)⟩
        clear h1 h2 h3 h4 h5 hch hR c hsub hA2 hq ha hm hm2 hm3
        obtain ⟨k1, hk1⟩ : ∃ k1, gk = k1 + 1 := ⟨t.length, hk⟩
        subst hk1
        go_wp2
        go_roundg k1
        case measure => omega
        case rel => exact ⟨t, by have := hk; rw [List.length_cons] at this; omega, hd, HN⟩
      · have b3 : decide (e.f1 ≤ i) = false := by simp [c]
        rw [delP, if_neg c] at hd
        have HR := Aside0.mk hR.out
        clear h1 h2 h3 h4 h5 hch hR c hm hm2 hq ha
        by_cases d : e.f0 ≤ i
        · have b4 : decide (e.f0 ≤ i) = true := by simp [d]
          go_wp2
          go_ret
          rw [← hd]
          exact ⟨by rw [delB, b4]; rfl, HR.out⟩
        · have b4 : decide (e.f0 ≤ i) = false := by simp [d]
          go_wp2
          go_ret
          rw [← hd]
          exact ⟨by rw [delB, b4]; rfl, HR.out⟩

/-- The bytes of a string, with origins from o on. -/
def insO (o : Int) (s : ByteArray) : List S200 := s.data.toList.mapIdx (fun j b => ⟨(b.toNat : Int), o + j⟩)
theorem insO_length (o : Int) (s : ByteArray) : (insO o s).length = s.size := by
  unfold insO
  rw [List.length_mapIdx]
  rfl
theorem insO_take (o : Int) (s : ByteArray) {j : Nat} (hj : j < s.size) : (insO o s).take (j + 1) = (insO o s).take j ++ [⟨((s.data.toList.getD j 0).toNat : Int), o + j⟩] := by
  have hl : j < s.data.toList.length := hj
  rw [List.take_add_one]
  congr 1
  unfold insO
  rw [List.getElem?_mapIdx, List.getElem?_eq_getElem hl, List.getD_eq_getElem?_getD, List.getElem?_eq_getElem hl]
  rfl
def PairI (w0 : World) (base mb ob : Nat) (me oe : List S137) (mo oo : Int) (mm om : List S200) (W : World) : Prop :=
  ∃ u v, MerE w0 mb me mo u W ∧ MerE w0 ob oe oo v W ∧ Kd.R k200 200 W base (fun k => some k = u.ownBlock) u mm ∧ Kd.R k200 200 W base (fun k => some k = v.ownBlock) v om ∧ (∀ k, u.ownBlock = some k → v.ownBlock ≠ some k) ∧ mb < base ∧ ob < base ∧ mb ≠ ob ∧ base ≤ W.heap.size
def insP (i : Int) (me : List S137) (mo : Int) (mm om : List S200) : Option (Int × List S200 × List S200) :=
  match me with
  | [] => some (mo, mm, om)
  | e :: _ => if e.f0 = i then (if 0 ≤ mo ∧ mo + e.f2.size ≤ 140737488355328 ∧ (mm.length + e.f2.size) * 16 ≤ 140737488355328 ∧ (om.length + e.f2.size) * 16 ≤ 140737488355328 then some (mo + e.f2.size, mm ++ insO mo e.f2, om ++ insB (-1) e.f2) else none) else some (mo, mm, om)
def InsL (w0 : World) (base mb ob : Nat) (ME : Value) (OE : Value) (mo oo : Int) (mm om : List S200) (s : ByteArray) (bb : Nat) (X : Option Obj) (j : Nat) (W : World) : Prop :=
  W.heap[bb]? = X ∧ bb < W.heap.size ∧ ∃ u v, W.heap[mb]? = some (.cells #[ME, .int .i64 (mo + j), u] 197 (0, 0)) ∧ W.heap[ob]? = some (.cells #[OE, .int .i64 oo, v] 197 (0, 0)) ∧ Below w0.heap.size w0 W ∧ Kd.R k200 200 W base (fun k => some k = u.ownBlock) u (mm ++ (insO mo s).take j) ∧ Kd.R k200 200 W base (fun k => some k = v.ownBlock) v (om ++ (insB (-1) s).take j) ∧ (∀ k, u.ownBlock = some k → v.ownBlock ≠ some k) ∧ u.ownBlock ≠ some bb ∧ v.ownBlock ≠ some bb
set_option maxRecDepth 100000 in
set_option maxHeartbeats 4000000 in
theorem insert_calls (w0 : World) (base mb ob : Nat) (me oe : List S137) (mo oo : Int) (mm om : List S200) (i : Int) (r : Int × List S200 × List S200) (W : World) (hI : PairI w0 base mb ob me oe mo oo mm om W) (h : insP i me mo mm om = some r) :
    Calls Try.prog 119 #[.pointer (some ⟨mb, 0, none⟩), .int .i64 i, .pointer (some ⟨ob, 0, none⟩)] W fun e w' => e = .returned (.tuple #[]) ∧ PairI w0 base mb ob me oe r.1 oo r.2.1 r.2.2 w' := by
  obtain ⟨u, v, hm, ho, hu, hv, hd, hb1, hb2, hne, hbs⟩ := hI
  cases me with
  | nil =>
    injection h with h
    subst h
    have HI : Aside0 (PairI w0 base mb ob [] oe mo oo mm om W) := ⟨⟨u, v, hm, ho, hu, hv, hd, hb1, hb2, hne, hbs⟩⟩
    obtain ⟨ME, cm, h1, _⟩ := hm
    have x0 : W.cell? ⟨mb, 0, none⟩ = some (.slice ME 0 cm) := (cells_of_blk h1 0).trans rfl
    clear h1 ho hu hv hd hb1 hb2
    go_enter Try.func119, Try.ntmps119
    go_wp2
    refine bodyPost_ret (results_none rfl _ _ _) rfl ?_
    exact ⟨rfl, HI.out⟩
  | cons e t =>
    have hmm := hm
    obtain ⟨ME, cm, h1, h2, h3, h4, h5⟩ := hmm
    obtain ⟨ad, hA, e0, e1, e2⟩ := at_T137 (Kd.C_below h3 h4) 0 (by omega) (by simp)
    have hq : rd_T137 (e :: t) 0 = e := rfl
    have ha : ad.add (Int.toNat 0 * 3) = ad := rfl
    rw [hq, ha] at e0 e1 e2
    subst hA
    obtain ⟨m, hlm⟩ : ∃ m, (e :: t).length = m := ⟨_, rfl⟩
    have HLM := Aside0.mk hlm
    have hmp : 0 < m := by rw [← hlm]; simp
    rw [hlm] at h1
    have x0 : W.cell? ⟨mb, 0, none⟩ = some (.slice (some ad) m cm) := (cells_of_blk h1 0).trans rfl
    have b1 : ((m : Int) == 0) = false := by simp; omega
    have p1 : (0 < m) = True := eq_true hmp
    have p2 : (m = 0) = False := eq_false (by omega)
    have HM := Aside0.mk hm
    have HO := Aside0.mk ho
    have HU := Aside0.mk hu
    have HV := Aside0.mk hv
    have HD := Aside0.mk hd
    clear hm ho hu hv hd hlm hmp h1 h2 h3 h4 h5 hq ha e1
    unfold insP at h
    by_cases c : e.f0 = i
    · simp only [] at h
      rw [if_pos c] at h
      split at h
      · next hlim =>
        injection h with h
        subst h
        have HLIM := Aside0.mk hlim
        have b2 : (e.f0 != i) = false := by simp [c]
        clear hlim c
        obtain ⟨cap, Wb, hconv, hcb, hcs, hcc⟩ := bytes_conv W e.f2
        go_enter Try.func119, Try.ntmps119
        go_upto_region 2 with (fail)
        obtain ⟨ME', cm', g1, g2, g3, g4, g5⟩ := HM.out
        obtain ⟨OE, co, o1, o2, o3, o4, o5⟩ := HO.out
        have hby := Kd.R_base HU.out
        have hbv := Kd.R_base HV.out
        have hlu := Kd.R_lt HU.out
        have hlv := Kd.R_lt HV.out
        have HL0 : Aside0 (InsL w0 base mb ob (.slice ME' (e :: t).length cm') (.slice OE oe.length co) mo oo mm om e.f2 W.heap.size Wb.heap[W.heap.size]? 0 Wb) := ⟨rfl, by omega, u, v,
          by rw [show mo + ((0 : Nat) : Int) = mo by simp]; exact (hcb.block _ (lt_of_blk g1)).trans g1, (hcb.block _ (lt_of_blk o1)).trans o1, g4.trans (hcb.mono g4.size),
          by rw [List.take_zero, List.append_nil]; exact Kd.R_below HU.out hcb, by rw [List.take_zero, List.append_nil]; exact Kd.R_below HV.out hcb, HD.out, fun h => by have := hlu _ h; omega, fun h => by have := hlv _ h; omega⟩
        have HG := Aside0.mk (show (e :: t).length ≤ cm' ∧ Kd.C k137 w0 ME' (e :: t).length (e :: t) ∧ w0.heap.size ≤ mb from ⟨g2, g3, g5⟩)
        have HOO := Aside0.mk (show oe.length ≤ co ∧ Kd.C k137 w0 OE oe.length oe ∧ w0.heap.size ≤ ob from ⟨o2, o3, o5⟩)
        have HCC := Aside0.mk hcc
        have hsz : e.f2.size ≤ 140737488355328 := by have := HLIM.out.2.2.1; omega
        have hmo : 0 ≤ mo := HLIM.out.1
        have hmo2 : mo + e.f2.size ≤ 140737488355328 := HLIM.out.2.1
        clear g1 g2 g3 g4 g5 o1 o2 o3 o4 o5 hby hbv hlu hlv hcb hcs hcc hconv x0 e0 e2 HM HO HU HV HD
        go_loopg [34] e.f2.size (fun kq v34 W' => ∃ (j : Nat), v34 = .int .i64 (j : Int) ∧ kq + j = e.f2.size ∧ Aside0 (InsL w0 base mb ob (.slice ME' (e :: t).length cm') (.slice OE oe.length co) mo oo mm om e.f2 W.heap.size Wb.heap[W.heap.size]? j W'))
        case atStart => exact ⟨0, rfl, by omega, HL0⟩
        case round =>
          obtain ⟨j, rfl, hj, hR⟩ := hrel
          obtain ⟨hX, hbbl, u1, v1, q1, q2, q3, q4, q5, q6, q7, q8⟩ := hR.out
          cases gk with
          | zero =>
            obtain rfl : j = e.f2.size := by omega
            rw [List.take_of_length_le (by rw [insO_length]; exact Nat.le_refl _)] at q4
            rw [List.take_of_length_le (by rw [insB_length]; exact Nat.le_refl _)] at q5
            have HF : Aside0 (PairI w0 base mb ob (e :: t) oe (mo + e.f2.size) oo (mm ++ insO mo e.f2) (om ++ insB (-1) e.f2) wr) := ⟨⟨u1, v1, ⟨ME', cm', q1, HG.out.1, HG.out.2.1, q3, HG.out.2.2⟩, ⟨OE, co, q2, HOO.out.1, HOO.out.2.1, q3, HOO.out.2.2⟩, q4, q5, q6, hb1, hb2, hne, by omega⟩⟩
            clear hX hbbl q1 q2 q3 q4 q5 q6 q7 q8 hR
            go_wp2
            go_end0
            exact ⟨rfl, HF.out⟩
          | succ k2 =>
            have hjl : j < e.f2.size := by omega
            obtain ⟨x, hxx⟩ : ∃ x, e.f2.data.toList.getD j 0 = x := ⟨_, rfl⟩
            have y0 : wr.cell? ⟨W.heap.size, j, none⟩ = some (.int .u8 x.toNat) := by
              have e' : wr.cell? ⟨W.heap.size, j, none⟩ = Wb.cell? ⟨W.heap.size, j, none⟩ := by unfold World.cell?; rw [hX]
              rw [e', HCC.out j hjl, hxx]
            have p7 : (0 ≤ (j : Int)) = True := eq_true (by omega)
            have p8 : ((j : Int) < (e.f2.size : Int)) = True := eq_true (by omega)
            obtain ⟨U, cu, hu⟩ := Kd.R_slice q4
            obtain ⟨V, cv, hv⟩ := Kd.R_slice q5
            have hlU : (mm ++ (insO mo e.f2).take j).length = mm.length + j := by rw [List.length_append, List.length_take, insO_length]; omega
            have hlV : (om ++ (insB (-1) e.f2).take j).length = om.length + j := by rw [List.length_append, List.length_take, insB_length]; omega
            rw [hlU] at hu
            rw [hlV] at hv
            subst hu hv
            have htU := insO_take mo e.f2 hjl
            have htV := insB_take (-1) e.f2 hjl
            rw [hxx] at htU htV
            obtain ⟨xs, hxs⟩ : ∃ xs, mm ++ (insO mo e.f2).take j = xs := ⟨_, rfl⟩
            obtain ⟨ys, hys⟩ : ∃ ys, om ++ (insB (-1) e.f2).take j = ys := ⟨_, rfl⟩
            have HTU : Aside0 (mm ++ (insO mo e.f2).take (j + 1) = xs ++ [⟨(x.toNat : Int), mo + j⟩]) := ⟨by rw [htU, ← hxs, List.append_assoc]⟩
            have HTV : Aside0 (om ++ (insB (-1) e.f2).take (j + 1) = ys ++ [⟨(x.toNat : Int), -1⟩]) := ⟨by rw [htV, ← hys, List.append_assoc]⟩
            rw [hxs] at q4 hlU
            rw [hys] at q5 hlV
            have HLU := Aside0.mk hlU
            have HLV := Aside0.mk hlV
            have HX := Aside0.mk hX
            have HBBL := Aside0.mk hbbl
            have Q1 := Aside0.mk q1
            have Q2 := Aside0.mk q2
            have Q3 := Aside0.mk q3
            have Q4 := Aside0.mk q4
            have Q5 := Aside0.mk q5
            have Q6 := Aside0.mk q6
            have Q7 := Aside0.mk q7
            have Q8 := Aside0.mk q8
            clear hlU hlV htU htV hxs hys hxx hX q1 q2 q3 q4 q5 q6 q7 q8 hR
            go_upto_region 4 with (fail)
            clear y0
            have hHold : wr.drew.cell? ⟨mb, 1, none⟩ = some (.int .i64 (mo + j)) ∧ wr.drew.cell? ⟨mb, 2, none⟩ = some (.slice U (mm.length + j) cu) :=
              ⟨(cells_of_blk Q1.out 1).trans rfl, (cells_of_blk Q1.out 2).trans rfl⟩
            have hHE : ∀ W' : World, W'.heap[mb]? = wr.heap[mb]? → (W'.cell? ⟨mb, 1, none⟩ = some (.int .i64 (mo + j)) ∧ W'.cell? ⟨mb, 2, none⟩ = some (.slice U (mm.length + j) cu)) :=
              fun W' h => ⟨(cells_of_blk (h.trans Q1.out) 1).trans rfl, (cells_of_blk (h.trans Q1.out) 2).trans rfl⟩
            have HHE := Aside0.mk hHE
            clear hHE
            refine start_ (n := 16) (S := fun w' => w'.cell? ⟨mb, 1, none⟩ = some (.int .i64 (mo + j)) ∧ w'.cell? ⟨mb, 2, none⟩ = some (.slice U (mm.length + j) cu)) (ds := [15]) #[false, false, false, false, false, false, false, false, false, false, false, false, false, false, false, false] (by kernel_rfl) rfl rfl (hHold) (fun hHeld => ?_)
            clear hHold
            refine pure_ (i := 0) (N := some 38) (v := ?_) (a' := ?_) #[true, false, false, false, false, false, false, false, false, false, false, false, false, false, false, false] rfl rfl (by kernel_rfl) (fun _ _ _ h => h) (Or.inl ⟨by rfl, ?_⟩) ?_ ?_
            rotate_left
            · intro w'
              go_simp
              with_reducible rfl
            rotate_left
            · simp only [Act.put, List.setIfInBounds_toArray, List.set_cons_zero, List.set_cons_succ, i64_w, i32_w]
              rfl
            refine pure_ (i := 1) (N := some 39) (v := ?_) (a' := ?_) #[true, true, false, false, false, false, false, false, false, false, false, false, false, false, false, false] rfl rfl (by kernel_rfl) (fun _ _ _ h => h) (Or.inl ⟨by rfl, ?_⟩) ?_ ?_
            rotate_left
            · intro w'
              go_simp
              with_reducible rfl
            rotate_left
            · simp only [Act.put, List.setIfInBounds_toArray, List.set_cons_zero, List.set_cons_succ, i64_w, i32_w]
              rfl
            refine pure_ (i := 2) (N := some 40) (v := ?_) (a' := ?_) #[true, true, true, false, false, false, false, false, false, false, false, false, false, false, false, false] rfl rfl (by kernel_rfl) (fun _ _ _ h => h) (Or.inl ⟨by rfl, ?_⟩) ?_ ?_
            rotate_left
            · intro w'
              go_simp
              with_reducible rfl
            rotate_left
            · simp only [Act.put, List.setIfInBounds_toArray, List.set_cons_zero, List.set_cons_succ, i64_w, i32_w]
              rfl
            refine pure_ (i := 3) (N := some 41) (v := ?_) (a' := ?_) #[true, true, true, true, false, false, false, false, false, false, false, false, false, false, false, false] rfl rfl (by kernel_rfl) (fun _ _ _ h => h) (Or.inl ⟨by rfl, ?_⟩) ?_ ?_
            rotate_left
            · intro w'
              go_simp
              with_reducible rfl
            rotate_left
            · simp only [Act.put, List.setIfInBounds_toArray, List.set_cons_zero, List.set_cons_succ, i64_w, i32_w]
              rfl
            refine take_ (i := 4) (N := some 42) (v := ?_) (a' := ?_) #[true, true, true, true, true, false, false, false, false, false, false, false, false, false, false, false] rfl rfl (by kernel_rfl) (fun _ _ _ h => h) (Or.inl ⟨by rfl, ?_⟩) hHeld ?_ ?_
            rotate_left
            · rintro w' ⟨s0_, s1_⟩
              go_simp
              with_reducible rfl
            rotate_left
            · simp only [Act.put, List.setIfInBounds_toArray, List.set_cons_zero, List.set_cons_succ, i64_w, i32_w]
              rfl
            refine pure_ (i := 5) (N := some 43) (v := ?_) (a' := ?_) #[true, true, true, true, true, true, false, false, false, false, false, false, false, false, false, false] rfl rfl (by kernel_rfl) (fun _ _ _ h => h) (Or.inl ⟨by rfl, ?_⟩) ?_ ?_
            rotate_left
            · intro w'
              go_simp
              with_reducible rfl
            rotate_left
            · simp only [Act.put, List.setIfInBounds_toArray, List.set_cons_zero, List.set_cons_succ, i64_w, i32_w]
              rfl
            refine pure_ (i := 6) (N := some 44) (v := ?_) (a' := ?_) #[true, true, true, true, true, true, true, false, false, false, false, false, false, false, false, false] rfl rfl (by kernel_rfl) (fun _ _ _ h => h) (Or.inl ⟨by rfl, ?_⟩) ?_ ?_
            rotate_left
            · intro w'
              go_simp
              with_reducible rfl
            rotate_left
            · simp only [Act.put, List.setIfInBounds_toArray, List.set_cons_zero, List.set_cons_succ, i64_w, i32_w]
              rfl
            refine pure_ (i := 7) (N := some 45) (v := ?_) (a' := ?_) #[true, true, true, true, true, true, true, true, false, false, false, false, false, false, false, false] rfl rfl (by kernel_rfl) (fun _ _ _ h => h) (Or.inl ⟨by rfl, ?_⟩) ?_ ?_
            rotate_left
            · intro w'
              go_simp
              with_reducible rfl
            rotate_left
            · simp only [Act.put, List.setIfInBounds_toArray, List.set_cons_zero, List.set_cons_succ, i64_w, i32_w]
              rfl
            refine pure_ (i := 8) (N := some 46) (v := ?_) (a' := ?_) #[true, true, true, true, true, true, true, true, true, false, false, false, false, false, false, false] rfl rfl (by kernel_rfl) (fun _ _ _ h => h) (Or.inl ⟨by rfl, ?_⟩) ?_ ?_
            rotate_left
            · intro w'
              go_simp
              with_reducible rfl
            rotate_left
            · simp only [Act.put, List.setIfInBounds_toArray, List.set_cons_zero, List.set_cons_succ, i64_w, i32_w]
              rfl
            refine take_ (i := 9) (N := some 47) (v := ?_) (a' := ?_) #[true, true, true, true, true, true, true, true, true, true, false, false, false, false, false, false] rfl rfl (by kernel_rfl) (fun _ _ _ h => h) (Or.inl ⟨by rfl, ?_⟩) hHeld ?_ ?_
            rotate_left
            · rintro w' ⟨s0_, s1_⟩
              go_simp
              with_reducible rfl
            rotate_left
            · simp only [Act.put, List.setIfInBounds_toArray, List.set_cons_zero, List.set_cons_succ, i64_w, i32_w]
              rfl
            refine pure_ (i := 10) (N := some 48) (v := ?_) (a' := ?_) #[true, true, true, true, true, true, true, true, true, true, true, false, false, false, false, false] rfl rfl (by kernel_rfl) (fun _ _ _ h => h) (Or.inl ⟨by rfl, ?_⟩) ?_ ?_
            rotate_left
            · intro w'
              go_simp
              with_reducible rfl
            rotate_left
            · simp only [Act.put, List.setIfInBounds_toArray, List.set_cons_zero, List.set_cons_succ, i64_w, i32_w]
              rfl
            refine one_ (i := 11) (N := some 49) #[true, true, true, true, true, true, true, true, true, true, true, true, false, false, false, false] rfl rfl (by kernel_rfl) (by decide) (fun K hK => ?_)
            refine value_ (v := .slice (some ⟨wr.heap.size, 0, none⟩) 1 1) (w1 := wr.drew.alloc (.cells #[.int .u8 x.toNat, .int .i64 (mo + j)] 200)) (by rfl) rfl ?_ ?_
            · go_simp
            refine hK.out _ _ (HHE.out _ (Below.heap_alloc _ _ _ (lt_of_blk Q1.out))) (fun hHeld => ?_)
            clear hK K
            refine norm_ (a' := ?_) ?_ ?_
            rotate_left
            · show Act.put _ (some 49) _ = _
              simp only [Act.put, List.setIfInBounds_toArray, List.set_cons_zero, List.set_cons_succ, i64_w, i32_w]
              rfl
            refine one_ (i := 12) (N := some 50) #[true, true, true, true, true, true, true, true, true, true, true, true, true, false, false, false] rfl rfl (by kernel_rfl) (by decide) (fun K hK => ?_)
            refine Kd.R_append_step k200 (w0 := wr.drew) base (by rfl) (.tmp 42) (.tmp 49) 189 200 (.agg #[.int .u8 0, .int .i64 0]) 16 rfl Try.underlying189 info_200 rfl (by decide) (by omega) (.slice U (mm.length + j) cu) xs ⟨(x.toNat : Int), mo + j⟩ [.int .u8 x.toNat, .int .i64 (mo + j)] (fun _ => True) (fun _ => False) rfl rfl (k200_mkM _ _ _ ⟨(x.toNat : Int), mo + j⟩) (fun _ h => h.elim) (fun _ _ => trivial) (Kd.R_mono Q4.out (fun _ _ => trivial)) (Below.refl _ _) (by show base ≤ wr.heap.size; omega) (by have := HLIM.out.2.2.1; have := HLU.out; omega) ?_
            intro v5 w5 ho5 hb5 hg5 hat5
            obtain ⟨U5, c5, hv5⟩ := Kd.R_slice ho5
            rw [List.length_append, List.length_singleton, HLU.out] at hv5
            subst hv5
            have e6 := hb5.block mb hb1
            have HO5 := Aside0.mk ho5
            have HG5 := Aside0.mk hg5
            have HB5 := Aside0.mk hb5
            have HAT5 := Aside0.mk hat5
            have HM5 := Aside0.mk (e6.trans Q1.out)
            clear ho5 hg5 hb5 hat5
            refine hK.out _ _ (HHE.out _ e6) (fun hHeld => ?_)
            clear hK K
            refine norm_ (a' := ?_) ?_ ?_
            rotate_left
            · show Act.put _ (some 50) _ = _
              simp only [Act.put, List.setIfInBounds_toArray, List.set_cons_zero, List.set_cons_succ, i64_w, i32_w]
              rfl
            clear e6
            refine pure_ (i := 13) (N := some 51) (v := ?_) (a' := ?_) #[true, true, true, true, true, true, true, true, true, true, true, true, true, true, false, false] rfl rfl (by kernel_rfl) (fun _ _ _ h => h) (Or.inl ⟨by rfl, ?_⟩) ?_ ?_
            rotate_left
            · intro w'
              go_simp
              with_reducible rfl
            rotate_left
            · simp only [Act.put, List.setIfInBounds_toArray, List.set_cons_zero, List.set_cons_succ, i64_w, i32_w]
              rfl
            refine pure_ (i := 14) (N := some 52) (v := ?_) (a' := ?_) #[true, true, true, true, true, true, true, true, true, true, true, true, true, true, true, false] rfl rfl (by kernel_rfl) (fun _ _ _ h => h) (Or.inl ⟨by rfl, ?_⟩) ?_ ?_
            rotate_left
            · intro w'
              go_simp
              with_reducible rfl
            rotate_left
            · simp only [Act.put, List.setIfInBounds_toArray, List.set_cons_zero, List.set_cons_succ, i64_w, i32_w]
              rfl
            refine last_ (i := 15) (N := none) #[true, true, true, true, true, true, true, true, true, true, true, true, true, true, true, true] rfl rfl (by kernel_rfl) (by decide) (fun K hK => ?_)
            have s5 := (cells_of_blk HM5.out 2).trans rfl
            have sf5 := free_of_blk HM5.out 2
            refine skip_ (w1 := w5.setCell ⟨mb, 2, none⟩ (.slice U5 (mm.length + j + 1) c5)) (by rfl) rfl ?_ ?_
            · go_simp
            refine hK.out _ _ (done_ (by kernel_rfl) ?_)
            clear hK K s5 sf5 hHeld
            try clear hHeld
            have hUb := Kd.R_base HO5.out
            have hVb := Kd.R_base Q5.out
            have hVl := Kd.R_lt Q5.out
            have g1 : (w5.setCell ⟨mb, 2, none⟩ (.slice U5 (mm.length + j + 1) c5)).heap[mb]? = some (.cells #[.slice ME' (e :: t).length cm', .int .i64 (mo + j), .slice U5 (mm.length + j + 1) c5] 197 (0, 0)) := hb_set HM5.out 2 _
            have g2 : (w5.setCell ⟨mb, 2, none⟩ (.slice U5 (mm.length + j + 1) c5)).heap[ob]? = some (.cells #[.slice OE oe.length co, .int .i64 oo, .slice V (om.length + j) cv] 197 (0, 0)) := hb_far ((HB5.out.block ob hb2).trans Q2.out) (by show ob ≠ mb; omega) _
            have g3 : Below w0.heap.size w0 (w5.setCell ⟨mb, 2, none⟩ (.slice U5 (mm.length + j + 1) c5)) := ((below_drew Q3.out).trans (HB5.out.mono (by have := HG.out.2.2; omega))).setCell (p := ⟨mb, 2, none⟩) HG.out.2.2 _
            have g4 : Kd.R k200 200 (w5.setCell ⟨mb, 2, none⟩ (.slice U5 (mm.length + j + 1) c5)) base (fun k => some k = (Value.slice U5 (mm.length + j + 1) c5).ownBlock) (.slice U5 (mm.length + j + 1) c5) (xs ++ [⟨(x.toNat : Int), mo + j⟩]) :=
              Kd.R_tight rfl (Kd.R_mono (Kd.R_step (Kd.R_bound HO5.out) (fun k hk _ => Below.heap_setCell _ _ _ _ (by have := hk.2.1; show k ≠ mb; omega))) (fun _ _ => trivial) (ok' := fun _ => True))
            have g5 : Kd.R k200 200 (w5.setCell ⟨mb, 2, none⟩ (.slice U5 (mm.length + j + 1) c5)) base (fun k => some k = (Value.slice V (om.length + j) cv).ownBlock) (.slice V (om.length + j) cv) ys :=
              Kd.R_step Q5.out (fun k hk hlt => (Below.heap_setCell _ _ _ _ (by have := hVb k hk.symm; show k ≠ mb; omega)).trans (HG5.out.block k hlt (fun e' => Q6.out k e'.symm hk.symm)))
            have g6 : ∀ k, (Value.slice U5 (mm.length + j + 1) c5).ownBlock = some k → (Value.slice V (om.length + j) cv).ownBlock ≠ some k := by
              intro k hk hk2
              rcases HAT5.out with h | ⟨b, h, hb⟩
              · rw [h] at hk; exact Q6.out k hk hk2
              · rw [h] at hk; injection hk with hk; have := hVl k hk2; have hb' : wr.heap.size ≤ b := hb; omega
            have g7 : (Value.slice U5 (mm.length + j + 1) c5).ownBlock ≠ some W.heap.size := by
              intro hk
              rcases HAT5.out with h | ⟨b, h, hb⟩
              · rw [h] at hk; exact Q7.out hk
              · rw [h] at hk; injection hk with hk; have hb' : wr.heap.size ≤ b := hb; omega
            have g8 : (w5.setCell ⟨mb, 2, none⟩ (.slice U5 (mm.length + j + 1) c5)).heap[W.heap.size]? = Wb.heap[W.heap.size]? := ((Below.heap_setCell _ _ _ _ (by show W.heap.size ≠ mb; omega)).trans (HG5.out.block _ hbbl (fun e' => Q7.out e'.symm))).trans HX.out
            have g9 : wr.heap.size ≤ (w5.setCell ⟨mb, 2, none⟩ (.slice U5 (mm.length + j + 1) c5)).heap.size := by rw [World.size_setCell]; exact HB5.out.size
            have G1 := Aside0.mk g1
            have G2 := Aside0.mk g2
            have G3 := Aside0.mk g3
            have G4 := Aside0.mk g4
            have G5 := Aside0.mk g5
            have G6 := Aside0.mk g6
            have G7 := Aside0.mk g7
            have G8 := Aside0.mk g8
            clear g1 g2 g3 g4 g5 g6 g7 g8 hUb hVb hVl HO5 HG5 HB5 HAT5 HM5 Q1 Q2 Q3 Q4 Q5 Q6 Q7 HHE HX
            generalize w5.setCell ⟨mb, 2, none⟩ (.slice U5 (mm.length + j + 1) c5) = W6 at *
            have z2 : W6.cell? ⟨ob, 2, none⟩ = some (.slice V (om.length + j) cv) := (cells_of_blk G2.out 2).trans rfl
            have n1 : (mb = ob) = False := eq_false hne
            have n2 : (ob = mb) = False := eq_false (fun h => hne h.symm)
            go_upto_region 6 with (first | ((with_reducible refine gate_builtin (b := .append) (xs := #[.tmp 57, .tmp 60]) rfl ?_); at_builtin; refine Kd.R_append k200 (w0 := W6) base rfl (.tmp 57) (.tmp 60) 189 200 (.agg #[.int .u8 0, .int .i64 0]) 16 rfl Try.underlying189 info_200 rfl (by decide) (by omega) (.slice V (om.length + j) cv) ys ⟨(x.toNat : Int), -1⟩ [.int .u8 x.toNat, .int .i64 (-1)] (fun _ => True) (fun _ => False) rfl rfl (k200_mkM _ _ _ ⟨(x.toNat : Int), -1⟩) (fun _ h => h.elim) (fun _ _ => trivial) (Kd.R_mono G5.out (fun _ _ => trivial)) (Below.refl _ _) (by omega) (by have := HLIM.out.2.2.2; have := HLV.out; omega) ?_; intro v7 w7 ho hb hg hat; (obtain ⟨V7, c7, hv7⟩ := Kd.R_slice ho); (rw [List.length_append, List.length_singleton, HLV.out] at hv7); subst hv7; (have hm7 := (hb.block mb hb1).trans G1.out); (have ho7 := (hb.block ob hb2).trans G2.out); (have s7 : w7.cell? ⟨ob, 2, none⟩ = _ := (cells_of_blk ho7 2).trans rfl); (have f7 := free_of_blk ho7 2); (have s8 : w7.cell? ⟨mb, 1, none⟩ = some (.int .i64 (mo + j)) := (cells_of_blk hm7 1).trans rfl); (have f8 := free_of_blk hm7 1); (have HO7 := Aside0.mk ho); (have HB7 := Aside0.mk hb); (have HG7 := Aside0.mk hg); (have HAT7 := Aside0.mk hat); (have HM7 := Aside0.mk hm7); (have HP7 := Aside0.mk ho7); clear ho hb hg hat hm7 ho7 z2))
            go_wp2
            go_roundg k2
            case measure => omega
            case rel =>
              have hw : mo + (j : Int) + 1 = mo + ((j + 1 : Nat) : Int) := by omega
              have hUb := Kd.R_base G4.out
              have hUl := Kd.R_lt G4.out
              have hVl := Kd.R_lt HO7.out
              refine ⟨j + 1, by first | rfl | (congr 1; unfold wrap64; omega), by omega, ⟨?_, ?_, .slice U5 (mm.length + j + 1) c5, .slice V7 (om.length + j + 1) c7, ?_, ?_, ?_, ?_, ?_, ?_, G7.out, ?_⟩⟩
              · exact ((Below.heap_setCell _ _ _ _ (by show W.heap.size ≠ mb; omega)).trans ((Below.heap_setCell _ _ _ _ (by show W.heap.size ≠ ob; omega)).trans (HG7.out.block _ (by omega) (fun e' => Q8.out e'.symm)))).trans G8.out
              · rw [World.size_setCell, World.size_setCell]; have := HB7.out.size; omega
              · rw [← hw]; exact hb_set (hb_far (p := ⟨ob, 2, none⟩) HM7.out (by show mb ≠ ob; omega) _) 1 _
              · exact hb_far (hb_set HP7.out 2 _) (by show ob ≠ mb; omega) _
              · exact ((G3.out.trans (HB7.out.mono (by have := HG.out.2.2; omega))).setCell (p := ⟨ob, 2, none⟩) HOO.out.2.2 _).setCell (p := ⟨mb, 1, none⟩) HG.out.2.2 _
              · rw [HTU.out]
                exact Kd.R_step G4.out (fun k hk hlt => (Below.heap_setCell _ _ _ _ (by have := hUb k hk.symm; show k ≠ mb; omega)).trans ((Below.heap_setCell _ _ _ _ (by have := hUb k hk.symm; show k ≠ ob; omega)).trans (HG7.out.block k hlt (fun e' => G6.out k hk.symm e'.symm))))
              · rw [HTV.out]
                exact Kd.R_tight rfl (Kd.R_mono (Kd.R_step (Kd.R_bound HO7.out) (fun k hk _ => (Below.heap_setCell _ _ _ _ (by have := hk.2.1; show k ≠ mb; omega)).trans (Below.heap_setCell _ _ _ _ (by have := hk.2.1; show k ≠ ob; omega)))) (fun _ _ => trivial) (ok' := fun _ => True))
              · intro k hk hk2
                rcases HAT7.out with h | ⟨b, h, hb⟩
                · rw [h] at hk2; exact G6.out k hk hk2
                · rw [h] at hk2; injection hk2 with hk2; have := hUl k hk; omega
              · intro hk
                rcases HAT7.out with h | ⟨b, h, hb⟩
                · rw [h] at hk; exact Q8.out hk
                · rw [h] at hk; injection hk with hk; omega
      · cases h
    · simp only [] at h
      rw [if_neg c] at h
      injection h with h
      subst h
      have b2 : (e.f0 != i) = true := by simp [c]
      clear c
      go_enter Try.func119, Try.ntmps119
      go_wp2
      refine bodyPost_ret (results_none rfl _ _ _) rfl ?_
      exact ⟨rfl, ⟨u, v, HM.out, HO.out, HU.out, HV.out, HD.out, hb1, hb2, hne, hbs⟩⟩

theorem pair_swap {w0 : World} {base mb ob : Nat} {me oe : List S137} {mo oo : Int} {mm om : List S200} {W : World} (h : PairI w0 base mb ob me oe mo oo mm om W) : PairI w0 base ob mb oe me oo mo om mm W := by
  obtain ⟨u, v, h1, h2, h3, h4, h5, h6, h7, h8, h9⟩ := h
  exact ⟨v, u, h2, h1, h4, h3, fun k hk hk2 => h5 k hk2 hk, h7, h6, fun e => h8 e.symm, h9⟩
theorem deletesP_calls {w0 : World} {base mb ob : Nat} {me oe : List S137} {mo oo : Int} {mm om : List S200} (i : Int) {W : World} (h : PairI w0 base mb ob me oe mo oo mm om W) :
    Calls Try.prog 120 #[.pointer (some ⟨mb, 0, none⟩), .int .i64 i] W fun e w' => e = .returned (.bool (delB i (delP i me))) ∧ PairI w0 base mb ob (delP i me) oe mo oo mm om w' := by
  obtain ⟨u, v, h1, h2, h3, h4, h5, h6, h7, h8, h9⟩ := h
  refine (deletes_calls w0 mb me mo u i W h1).mono ?_
  rintro e w' ⟨rfl, g1, g2⟩
  have hub := Kd.R_base h3
  have hvb := Kd.R_base h4
  obtain ⟨OE, co, o1, o2, o3, o4, o5⟩ := h2
  have g1' := g1
  obtain ⟨_, _, _, _, _, gb, _⟩ := g1'
  refine ⟨rfl, u, v, g1, ⟨OE, co, g2.at o1 (fun e => h8 e.symm), o2, o3, gb, o5⟩, Kd.R_step h3 (fun k hk hlt => g2.block k hlt (fun e => by have := hub k hk.symm; omega)), Kd.R_step h4 (fun k hk hlt => g2.block k hlt (fun e => by have := hvb k hk.symm; omega)), h5, h6, h7, h8, Nat.le_trans h9 g2.size⟩
theorem pair_off {w0 : World} {base mb ob : Nat} {me oe : List S137} {mo oo : Int} {mm om : List S200} {W : World} (mo' : Int) (h : PairI w0 base mb ob me oe mo oo mm om W) : PairI w0 base mb ob me oe mo' oo mm om (W.setCell ⟨mb, 1, none⟩ (.int .i64 mo')) := by
  obtain ⟨u, v, ⟨ME, cm, m1, m2, m3, m4, m5⟩, ⟨OE, co, o1, o2, o3, o4, o5⟩, h3, h4, h5, h6, h7, h8, h9⟩ := h
  have hub := Kd.R_base h3
  have hvb := Kd.R_base h4
  refine ⟨u, v, ⟨ME, cm, hb_set m1 1 _, m2, m3, m4.setCell (p := ⟨mb, 1, none⟩) m5 _, m5⟩, ⟨OE, co, hb_far (p := ⟨mb, 1, none⟩) o1 (by show ob ≠ mb; exact fun e => h8 e.symm) _, o2, o3, m4.setCell (p := ⟨mb, 1, none⟩) m5 _, o5⟩, ?_, ?_, h5, h6, h7, h8, by rw [World.size_setCell]; exact h9⟩
  · exact Kd.R_step h3 (fun k hk _ => Below.heap_setCell _ _ _ _ (by have := hub k hk.symm; show k ≠ mb; omega))
  · exact Kd.R_step h4 (fun k hk _ => Below.heap_setCell _ _ _ _ (by have := hvb k hk.symm; show k ≠ mb; omega))
theorem pair_cells {w0 : World} {base mb ob : Nat} {me oe : List S137} {mo oo : Int} {mm om : List S200} {W : World} (h : PairI w0 base mb ob me oe mo oo mm om W) :
    W.cell? ⟨mb, 1, none⟩ = some (.int .i64 mo) ∧ W.frozen? ⟨mb, 1, none⟩ = false ∧ ∃ U cu a, W.heap[mb]? = some (.cells #[a, .int .i64 mo, .slice U mm.length cu] 197 (0, 0)) ∧ Kd.R k200 200 W base (fun k => some k = (Value.slice U mm.length cu).ownBlock) (.slice U mm.length cu) mm := by
  obtain ⟨u, v, ⟨ME, cm, m1, m2, m3, m4, m5⟩, _, h3, _⟩ := h
  obtain ⟨U, cu, eu⟩ := Kd.R_slice h3
  subst eu
  exact ⟨(cells_of_blk m1 1).trans rfl, free_of_blk m1 1, U, cu, _, m1, h3⟩
theorem pair_app {w0 : World} {base mb ob : Nat} {me oe : List S137} {mo oo : Int} {mm om : List S200} {W w5 : World} {U U5 : Option Addr} {cu c5 : Nat} {a : Value} {x : S200} (h : PairI w0 base mb ob me oe mo oo mm om W) (hm : W.heap[mb]? = some (.cells #[a, .int .i64 mo, .slice U mm.length cu] 197 (0, 0)))
    (ho : Kd.R k200 200 w5 base (fun _ => True) (.slice U5 (mm.length + 1) c5) (mm ++ [x])) (hb : Below base W.drew w5) (hg : W.drew.grownBy w5 (Value.slice U mm.length cu).ownBlock) (hat : (Value.slice U5 (mm.length + 1) c5).ownBlock = (Value.slice U mm.length cu).ownBlock ∨ ∃ b, (Value.slice U5 (mm.length + 1) c5).ownBlock = some b ∧ W.drew.heap.size ≤ b) :
    PairI w0 base mb ob me oe mo oo (mm ++ [x]) om (w5.setCell ⟨mb, 2, none⟩ (.slice U5 (mm.length + 1) c5)) := by
  obtain ⟨u, v, ⟨ME, cm, m1, m2, m3, m4, m5⟩, ⟨OE, co, o1, o2, o3, o4, o5⟩, h3, h4, h5, h6, h7, h8, h9⟩ := h
  have he := m1.symm.trans hm
  injection he with he
  injection he with he
  have hu : u = .slice U mm.length cu := by
    have := congrArg (fun a : Array Value => a[2]?) he
    simpa using this
  subst hu
  have hvb := Kd.R_base h4
  have hvl := Kd.R_lt h4
  have hbe : Below w0.heap.size w0 (w5.setCell ⟨mb, 2, none⟩ (.slice U5 (mm.length + 1) c5)) := ((below_drew m4).trans (hb.mono (by omega))).setCell (p := ⟨mb, 2, none⟩) m5 _
  refine ⟨.slice U5 (mm.length + 1) c5, v, ⟨ME, cm, hb_set ((hb.block mb h6).trans m1) 2 _, m2, m3, hbe, m5⟩, ⟨OE, co, hb_far (p := ⟨mb, 2, none⟩) ((hb.block ob h7).trans o1) (by show ob ≠ mb; exact fun e => h8 e.symm) _, o2, o3, hbe, o5⟩, ?_, ?_, ?_, h6, h7, h8, by rw [World.size_setCell]; exact Nat.le_trans h9 hb.size⟩
  · exact Kd.R_tight rfl (Kd.R_mono (Kd.R_step (Kd.R_bound ho) (fun k hk _ => Below.heap_setCell _ _ _ _ (by have := hk.2.1; show k ≠ mb; omega))) (fun _ _ => trivial) (ok' := fun _ => True))
  · exact Kd.R_step h4 (fun k hk hlt => (Below.heap_setCell _ _ _ _ (by have := hvb k hk.symm; show k ≠ mb; omega)).trans (hg.block k hlt (fun e' => h5 k e'.symm hk.symm)))
  · intro k hk hk2
    rcases hat with h | ⟨b, h, hb'⟩
    · rw [h] at hk; exact h5 k hk hk2
    · rw [h] at hk; injection hk with hk; have := hvl k hk2; have hb'' : W.heap.size ≤ b := hb'; omega
/-- Both sides of a transformation. -/
structure TS where
  le : List S137
  re : List S137
  lo : Int
  ro : Int
  lm : List S200
  rm : List S200
def insT (i : Int) (s : TS) : Option TS :=
  (insP i s.le s.lo s.lm s.rm).bind fun r => (insP i s.re s.ro r.2.2 r.2.1).bind fun q => some ⟨s.le, s.re, r.1, q.1, q.2.2, q.2.1⟩
def delT (i : Int) (s : TS) : TS := ⟨delP i s.le, delP i s.re, s.lo, s.ro, s.lm, s.rm⟩
def bothT (b : Int) (byL byR : Bool) (s : TS) : Option TS :=
  if byL = false ∧ byR = false then (if (s.lm.length + 1) * 16 ≤ 140737488355328 ∧ (s.rm.length + 1) * 16 ≤ 140737488355328 then some ⟨s.le, s.re, s.lo, s.ro, s.lm ++ [⟨b, s.lo⟩], s.rm ++ [⟨b, s.ro⟩]⟩ else none) else some s
def offT (byL byR : Bool) (s : TS) : Option TS :=
  if -4611686018427387904 ≤ s.lo ∧ s.lo ≤ 4611686018427387904 ∧ -4611686018427387904 ≤ s.ro ∧ s.ro ≤ 4611686018427387904 then some ⟨s.le, s.re, if byL = true then s.lo else s.lo + 1, if byR = true then s.ro else s.ro + 1, s.lm, s.rm⟩ else none
def addT (b : Int) (i : Int) (s : TS) : Option TS := (bothT b (delB i s.le) (delB i s.re) s).bind fun s' => offT (delB i s.le) (delB i s.re) s'
def runT (src : ByteArray) : Nat → TS → Option TS
  | 0, s => insT (src.size : Int) s
  | n + 1, s => (insT ((src.size - (n + 1) : Nat) : Int) s).bind fun s => (addT (bt src ((src.size - (n + 1) : Nat) : Int)) ((src.size - (n + 1) : Nat) : Int) (delT ((src.size - (n + 1) : Nat) : Int) s)).bind fun s => runT src n s
def textedit_Transform.f (k : Nat) (src : ByteArray) (le re : List S137) : Option (List S137 × List S137 × Int) :=
  (textedit_Apply.f k src le).bind fun a => if a.2 = 0 then ((textedit_Apply.f k src re).bind fun b => if b.2 = 0 then ((if src.size ≤ 140737488355328 then runT src src.size ⟨le, re, 0, 0, [], []⟩ else none).bind fun s =>
    if (s.lm.length : Int) > 2000 then some ([], [], 2) else (textedit_canonical.f (b.1.size : Int) s.rm).bind fun c => if c.2 = 0 then ((textedit_canonical.f (a.1.size : Int) s.lm).bind fun d => if d.2 = 0 then some (c.1, d.1, 0) else some ([], [], d.2)) else some ([], [], c.2)) else some ([], [], b.2)) else some ([], [], a.2)
theorem textedit_Transform.mono : ∀ a0 a1 a2 k, LeO (textedit_Transform.f k a0 a1 a2) (textedit_Transform.f (k + 1) a0 a1 a2) := by
  intro a0 a1 a2 k
  unfold textedit_Transform.f
  refine LeO.bind (textedit_Apply.mono _ _ _) (fun a => LeO.ite ?_ (LeO.refl _))
  exact LeO.bind (textedit_Apply.mono _ _ _) (fun b => LeO.refl _)
def TPair (w0 : World) (base lb rb : Nat) (s : TS) (W : World) : Prop := PairI w0 base lb rb s.le s.re s.lo s.ro s.lm s.rm W
set_option maxRecDepth 100000 in
set_option maxHeartbeats 8000000 in
theorem textedit_Transform.calls (k : Nat) (a0 : ByteArray) (A1 : Option Addr) (c1 : Nat) (l1 : List (S137)) (A2 : Option Addr) (c2 : Nat) (l2 : List (S137)) (r1 : List S137) (r2 : List S137) (r3 : Int) (w : World) (hr1 : Kd.C k137 w A1 l1.length l1) (hc1 : l1.length ≤ c1) (hr2 : Kd.C k137 w A2 l2.length l2) (hc2 : l2.length ≤ c2) (h : textedit_Transform.f k a0 l1 l2 = some (r1, r2, r3)) :
    Calls Try.prog 72 #[.string a0, .slice A1 l1.length c1, .slice A2 l2.length c2] w fun e w' => ∃ v0_ v1_ : Value, e = .returned (.tuple #[v0_, v1_, .int .i64 r3]) ∧ Kd.R k137 137 w' w.heap.size (fun _ => True) v0_ r1 ∧ Kd.R k137 137 w' w.heap.size (fun _ => True) v1_ r2 ∧ Below w.heap.size w w' := by
  unfold textedit_Transform.f at h
  obtain ⟨⟨ra, ea⟩, ha, h⟩ := Option.bind_eq_some_iff.1 h
  have HQ := Aside0.mk hr1
  have HCQ := Aside0.mk hc1
  have HQ2 := Aside0.mk hr2
  have HCQ2 := Aside0.mk hc2
  have HA := Aside0.mk ha
  have hlen := hr1.2.1
  have hlen2 := hr2.2.1
  clear hr1 hc1 hr2 hc2 ha
  simp only [] at h
  by_cases e0 : ea = 0
  · subst e0
    rw [if_pos rfl] at h
    obtain ⟨⟨rb, eb⟩, hb, h⟩ := Option.bind_eq_some_iff.1 h
    have HB := Aside0.mk hb
    clear hb
    simp only [] at h
    by_cases e1 : eb = 0
    · subst e1
      rw [if_pos rfl] at h
      obtain ⟨s, hs, h⟩ := Option.bind_eq_some_iff.1 h
      split at hs
      case isFalse => cases hs
      next hsz =>
      have HS := Aside0.mk hs
      have HH := Aside0.mk h
      clear hs h
      go_enter Try.func72, Try.ntmps72
      go_upto_region 4 with (go_at_call 63; refine (textedit_Apply.calls k a0 A1 c1 l1 ra 0 _ HQ.out HCQ.out HA.out).mono ?_; rintro e w2 ⟨rfl, hb2⟩; (have HB2 := Aside0.mk hb2); clear hb2)
      go_upto_region 7 with (go_at_call 63; refine (textedit_Apply.calls k a0 A2 c2 l2 rb 0 _ (Kd.C_below HQ2.out HB2.out) HCQ2.out HB.out).mono ?_; rintro e w3 ⟨rfl, hb3⟩; (have HB3 := Aside0.mk (HB2.out.trans (hb3.mono HB2.out.size))); clear hb3)
      go_wp2
      have HC1 := Aside0.mk (Kd.C_below HQ.out HB3.out)
      have HC2 := Aside0.mk (Kd.C_below HQ2.out HB3.out)
      go_loopg [14] a0.size (fun kq v14 W => ∃ (i : Nat), v14 = .int .i64 (i : Int) ∧ kq + i = a0.size ∧ Aside0 (∃ st, runT a0 kq st = some s ∧ TPair w3 (w3.heap.size + 2) w3.heap.size (w3.heap.size + 1) st W))
      case atStart =>
        refine ⟨0, rfl, by omega, ⟨⟨l1, l2, 0, 0, [], []⟩, HS.out, .slice none 0 0, .slice none 0 0, ⟨A1, c1, ?_, HCQ.out, HC1.out, ?_, Nat.le_refl _⟩, ⟨A2, c2, ?_, HCQ2.out, HC2.out, ?_, by omega⟩, Kd.R_nil _ _ _ _ _, Kd.R_nil _ _ _ _ _, (fun k h => by cases h), by omega, by omega, by omega, ?_⟩⟩
        · exact hb_alloc (hb_new _ _)
        · exact below_alloc (below_alloc (Below.refl _ _) _) _
        · have h1 := hb_new (w3.alloc (.cells #[.slice A1 l1.length c1, .int .i64 0, .slice none 0 0] 197)) (.cells #[.slice A2 l2.length c2, .int .i64 0, .slice none 0 0] 197)
          rw [World.size_alloc] at h1
          exact h1
        · exact below_alloc (below_alloc (Below.refl _ _) _) _
        · rw [World.size_alloc, World.size_alloc]; omega
      case round =>
        obtain ⟨i, rfl, hi, hR⟩ := hrel
        obtain ⟨st, hrun, hP⟩ := hR.out
        cases gk with
        | zero =>
          obtain rfl : i = a0.size := by omega
          rw [runT] at hrun
          unfold insT at hrun
          obtain ⟨r, hr, hrun⟩ := Option.bind_eq_some_iff.1 hrun
          obtain ⟨q, hq, hrun⟩ := Option.bind_eq_some_iff.1 hrun
          injection hrun with hrun
          subst hrun
          have HP := Aside0.mk hP
          have HR1 := Aside0.mk hr
          have HR2 := Aside0.mk hq
          clear hP hr hq hR HS
          go_upto_region 22 with (first | (go_at_call 119; refine (insert_calls w3 (w3.heap.size + 2) w3.heap.size (w3.heap.size + 1) st.le st.re st.lo st.ro st.lm st.rm (a0.size : Int) r _ HP.out HR1.out).mono ?_; rintro e w4 ⟨rfl, hp4⟩; (have HP4 := Aside0.mk (pair_swap hp4)); clear HP HR1 hp4) | (go_at_call 119; refine (insert_calls w3 (w3.heap.size + 2) (w3.heap.size + 1) w3.heap.size st.re st.le st.ro r.1 r.2.2 r.2.1 (a0.size : Int) q _ HP4.out HR2.out).mono ?_; rintro e w5 ⟨rfl, hp5⟩; (have HP5 := Aside0.mk (pair_swap hp5)); clear HP4 HR2 hp5))
          have hp5 := HP5.out
          obtain ⟨u, v, m1, m2, hu, hv, _, _, _, _, _⟩ := hp5
          obtain ⟨U, cu, eu⟩ := Kd.R_slice hu
          obtain ⟨V, cv, ev⟩ := Kd.R_slice hv
          subst eu ev
          obtain ⟨_, huc, hur⟩ := Kd.R_reads' hu
          obtain ⟨_, hvc, hvr⟩ := Kd.R_reads' hv
          obtain ⟨L1, lc1, k1', _, _, gbel, _⟩ := m1
          obtain ⟨L2, lc2, k2', _, _, _, _⟩ := m2
          have x1 : w5.cell? ⟨w3.heap.size, 2, none⟩ = some (.slice U q.2.2.length cu) := (cells_of_blk k1' 2).trans rfl
          have x2 : w5.cell? ⟨w3.heap.size + 1, 2, none⟩ = some (.slice V q.2.1.length cv) := (cells_of_blk k2' 2).trans rfl
          have hh := HH.out
          try simp only [] at hh
          have HUC := Aside0.mk huc
          have HUR := Aside0.mk hur
          have HVC := Aside0.mk hvc
          have HVR := Aside0.mk hvr
          have HB5 := Aside0.mk (HB3.out.trans (gbel.mono HB3.out.size))
          have HK1 := Aside0.mk k1'
          clear hu hv huc hur hvc hvr gbel k1' k2' HP5 HH hi
          by_cases c : (q.2.2.length : Int) > 2000
          · rw [if_pos c] at hh
            injection hh with hh
            injection hh with g1 hh
            injection hh with g2 g3
            subst g1 g2 g3
            have b1 : decide ((q.2.2.length : Int) > 2000) = true := by simp only [decide_eq_true_eq]; exact c
            have b3 : (2000 < q.2.2.length) = True := eq_true (by omega)
            clear c
            go_wp2
            go_ret3
            exact ⟨.slice none 0 0, .slice none 0 0, rfl, Kd.R_nil _ _ _ _ _, Kd.R_nil _ _ _ _ _, HB5.out⟩
          · rw [if_neg c] at hh
            obtain ⟨⟨ca, ce⟩, hca, hh⟩ := Option.bind_eq_some_iff.1 hh
            try simp only [] at hh
            have HCA := Aside0.mk hca
            have b1 : decide ((q.2.2.length : Int) > 2000) = false := by simp only [decide_eq_false_iff_not]; exact c
            have b3 : (2000 < q.2.2.length) = False := eq_false (by omega)
            clear c hca
            by_cases e2 : ce = 0
            · subst e2
              rw [if_pos rfl] at hh
              obtain ⟨⟨da, de⟩, hda, hh⟩ := Option.bind_eq_some_iff.1 hh
              try simp only [] at hh
              have HDA := Aside0.mk hda
              clear hda
              by_cases e3 : de = 0
              · subst e3
                rw [if_pos rfl] at hh
                injection hh with hh
                injection hh with g1 hh
                injection hh with g2 g3
                subst g1 g2 g3
                go_upto_region 25 with (go_at_call 115; refine (textedit_canonical.calls (rb.size : Int) V cv q.2.1 ca 0 w5 HVR.out HVC.out HCA.out).mono ?_; rintro e w6 ⟨v6, rfl, hv6, hb6⟩; (have y1 := pw_cell_below hb6 x1); (have HV6 := Aside0.mk hv6); (have HB6 := Aside0.mk hb6); (have HUR6 := Aside0.mk (Kd.C_below HUR.out hb6)); clear hv6 hb6 x1 x2)
                go_wp2_with (go_at_call 115; refine (textedit_canonical.calls (ra.size : Int) U cu q.2.2 da 0 w6 HUR6.out HUC.out HDA.out).mono ?_; rintro e w7 ⟨v7, rfl, hv7, hb7⟩; (have HV7 := Aside0.mk hv7); (have HB7 := Aside0.mk hb7); clear hv7 hb7)
                go_ret3
                have hs5 := HB5.out.size
                have hs6 := HB6.out.size
                exact ⟨_, _, rfl, Kd.R_lower (Kd.R_below HV6.out HB7.out) hs5, Kd.R_lower HV7.out (by omega), HB5.out.trans ((HB6.out.trans (HB7.out.mono hs6)).mono hs5)⟩
              · rw [if_neg e3] at hh
                injection hh with hh
                injection hh with g1 hh
                injection hh with g2 g3
                subst g1 g2 g3
                have b4 : (de != 0) = true := by simp [e3]
                clear e3
                go_upto_region 25 with (go_at_call 115; refine (textedit_canonical.calls (rb.size : Int) V cv q.2.1 ca 0 w5 HVR.out HVC.out HCA.out).mono ?_; rintro e w6 ⟨v6, rfl, hv6, hb6⟩; (have y1 := pw_cell_below hb6 x1); (have HB6 := Aside0.mk hb6); (have HUR6 := Aside0.mk (Kd.C_below HUR.out hb6)); clear hv6 hb6 x1 x2)
                go_wp2_with (go_at_call 115; refine (textedit_canonical.calls (ra.size : Int) U cu q.2.2 da de w6 HUR6.out HUC.out HDA.out).mono ?_; rintro e w7 ⟨v7, rfl, hv7, hb7⟩; (have HB7 := Aside0.mk hb7); clear hv7 hb7)
                go_ret3
                have hs5 := HB5.out.size
                have hs6 := HB6.out.size
                exact ⟨.slice none 0 0, .slice none 0 0, rfl, Kd.R_nil _ _ _ _ _, Kd.R_nil _ _ _ _ _, HB5.out.trans ((HB6.out.trans (HB7.out.mono hs6)).mono hs5)⟩
            · rw [if_neg e2] at hh
              injection hh with hh
              injection hh with g1 hh
              injection hh with g2 g3
              subst g1 g2 g3
              have b4 : (ce != 0) = true := by simp [e2]
              clear e2
              go_wp2_with (go_at_call 115; refine (textedit_canonical.calls (rb.size : Int) V cv q.2.1 ca ce w5 HVR.out HVC.out HCA.out).mono ?_; rintro e w6 ⟨v6, rfl, hv6, hb6⟩; (have HB6 := Aside0.mk hb6); clear hv6 hb6 x1 x2)
              go_ret3
              exact ⟨.slice none 0 0, .slice none 0 0, rfl, Kd.R_nil _ _ _ _ _, Kd.R_nil _ _ _ _ _, HB5.out.trans (HB6.out.mono HB5.out.size)⟩
        | succ n =>
          rw [runT, show a0.size - (n + 1) = i by omega] at hrun
          obtain ⟨s1, g1, hrun1⟩ := Option.bind_eq_some_iff.1 hrun
          obtain ⟨s2, g2, hrun2⟩ := Option.bind_eq_some_iff.1 hrun1
          unfold insT at g1
          obtain ⟨r, hr, g1⟩ := Option.bind_eq_some_iff.1 g1
          obtain ⟨q, hq, g1⟩ := Option.bind_eq_some_iff.1 g1
          injection g1 with g1
          subst g1
          unfold addT at g2
          obtain ⟨s3, g3, g4⟩ := Option.bind_eq_some_iff.1 g2
          have HP := Aside0.mk hP
          have HR1 := Aside0.mk hr
          have HR2 := Aside0.mk hq
          have HRUN := Aside0.mk hrun2
          have t1 : ((i : Int) == (a0.size : Int)) = false := by simp; omega
          have p5 : (0 ≤ (i : Int)) = True := eq_true (by omega)
          have p6 : ((i : Int) < (a0.size : Int)) = True := eq_true (by omega)
          have p7 : ((i : Int) ≤ (a0.size : Int)) = True := eq_true (by omega)
          clear hP hr hq hR HS g2 hrun hrun1 hrun2
          go_upto_region 14 with (first | (go_at_call 119; refine (insert_calls w3 (w3.heap.size + 2) w3.heap.size (w3.heap.size + 1) st.le st.re st.lo st.ro st.lm st.rm (i : Int) r _ HP.out HR1.out).mono ?_; rintro e w4 ⟨rfl, hp4⟩; (have HP4 := Aside0.mk (pair_swap hp4)); clear HP HR1 hp4) | (go_at_call 119; refine (insert_calls w3 (w3.heap.size + 2) (w3.heap.size + 1) w3.heap.size st.re st.le st.ro r.1 r.2.2 r.2.1 (i : Int) q _ HP4.out HR2.out).mono ?_; rintro e w5 ⟨rfl, hp5⟩; (have HP5 := Aside0.mk (pair_swap hp5)); clear HP4 HR2 hp5))
          go_upto_region 15 with (first | (go_at_call 120; refine (deletesP_calls (i : Int) HP5.out).mono ?_; rintro e w6 ⟨rfl, hp6⟩; (have HP6 := Aside0.mk (pair_swap hp6)); clear HP5 hp6) | (go_at_call 120; refine (deletesP_calls (i : Int) HP6.out).mono ?_; rintro e w7 ⟨rfl, hp7⟩; (have HP7 := Aside0.mk (pair_swap hp7)); clear HP6 hp7))
          simp only [delT] at g3 g4
          generalize hbl : delB (i : Int) (delP (i : Int) st.le) = bL at *
          generalize hbr : delB (i : Int) (delP (i : Int) st.re) = bR at *
          clear hbl hbr
          have hcl := pair_cells HP7.out
          have hcr := pair_cells (pair_swap HP7.out)
          obtain ⟨y1, f1, U, cu, aL, hmL, hRL⟩ := hcl
          obtain ⟨y2, f2, V, cv, aR, hmR, hRR⟩ := hcr
          have HML := Aside0.mk hmL
          have HRL := Aside0.mk hRL
          have HMR := Aside0.mk hmR
          have HRR := Aside0.mk hRR
          clear hmL hRL hmR hRR
          have n1 : (w3.heap.size = w3.heap.size + 1) = False := eq_false (by omega)
          unfold bothT at g3
          unfold offT at g4
          cases bL with
          | true =>
            rw [if_neg (fun h => by cases h.1)] at g3
            injection g3 with g3
            subst g3
            split at g4
            case isFalse => cases g4
            next hbd =>
            injection g4 with g4
            subst g4
            obtain ⟨d1, d2, d3, d4⟩ := hbd
            try simp only [] at d1 d2 d3 d4
            cases bR with
            | true =>
              go_wp2
              go_roundg n
              case measure => omega
              case rel =>
                exact ⟨i + 1, by first | rfl | (congr 1; unfold wrap64; omega), by omega, ⟨_, HRUN.out, HP7.out⟩⟩
            | false =>
              go_wp2
              go_roundg n
              case measure => omega
              case rel =>
                exact ⟨i + 1, by first | rfl | (congr 1; unfold wrap64; omega), by omega, ⟨_, HRUN.out, pair_swap (pair_off (q.1 + 1) (pair_swap HP7.out))⟩⟩
          | false =>
            cases bR with
            | true =>
              rw [if_neg (fun h => by cases h.2)] at g3
              injection g3 with g3
              subst g3
              split at g4
              case isFalse => cases g4
              next hbd =>
              injection g4 with g4
              subst g4
              obtain ⟨d1, d2, d3, d4⟩ := hbd
              try simp only [] at d1 d2 d3 d4
              go_wp2
              go_roundg n
              case measure => omega
              case rel =>
                exact ⟨i + 1, by first | rfl | (congr 1; unfold wrap64; omega), by omega, ⟨_, HRUN.out, pair_off (r.1 + 1) HP7.out⟩⟩
            | false =>
              rw [if_pos ⟨rfl, rfl⟩] at g3
              split at g3
              case isFalse => cases g3
              next hlim =>
              injection g3 with g3
              subst g3
              split at g4
              case isFalse => cases g4
              next hbd =>
              injection g4 with g4
              subst g4
              obtain ⟨d1, d2, d3, d4⟩ := hbd
              try simp only [] at d1 d2 d3 d4
              have HLIM := Aside0.mk hlim
              clear hlim
              clear y1 f1 y2 f2
              have hib : i < a0.size := by omega
              have HBT : Aside0 (bt a0 (i : Int) = ((a0[i]'hib).toNat : Int)) := ⟨by unfold bt; rw [dif_pos (show (i : Int).toNat < a0.size from hib)]; rfl⟩
              have HBSw7 : Aside0 (w3.heap.size + 2 ≤ w7.heap.size) := ⟨HP7.out.choose_spec.choose_spec.2.2.2.2.2.2.2.2⟩
              go_upto_region 16 with (fail)
              have hHold : w7.drew.cell? ⟨w3.heap.size, 1, none⟩ = some (.int .i64 r.1) ∧ w7.drew.cell? ⟨w3.heap.size, 2, none⟩ = some (.slice U q.2.2.length cu) :=
                ⟨(cells_of_blk HML.out 1).trans rfl, (cells_of_blk HML.out 2).trans rfl⟩
              have hHE : ∀ W' : World, W'.heap[w3.heap.size]? = w7.heap[w3.heap.size]? → (W'.cell? ⟨w3.heap.size, 1, none⟩ = some (.int .i64 r.1) ∧ W'.cell? ⟨w3.heap.size, 2, none⟩ = some (.slice U q.2.2.length cu)) :=
                fun W' h => ⟨(cells_of_blk (h.trans HML.out) 1).trans rfl, (cells_of_blk (h.trans HML.out) 2).trans rfl⟩
              have HHE := Aside0.mk hHE
              clear hHE
              refine start_ (n := 18) (S := fun w' => w'.cell? ⟨w3.heap.size, 1, none⟩ = some (.int .i64 r.1) ∧ w'.cell? ⟨w3.heap.size, 2, none⟩ = some (.slice U q.2.2.length cu)) (ds := [17]) #[false, false, false, false, false, false, false, false, false, false, false, false, false, false, false, false, false, false] (by kernel_rfl) rfl rfl (hHold) (fun hHeld => ?_)
              clear hHold
              refine pure_ (i := 0) (N := some 73) (v := ?_) (a' := ?_) #[true, false, false, false, false, false, false, false, false, false, false, false, false, false, false, false, false, false] rfl rfl (by kernel_rfl) (fun _ _ _ h => h) (Or.inl ⟨by rfl, ?_⟩) ?_ ?_
              rotate_left
              · intro w'
                go_simp
                with_reducible rfl
              rotate_left
              · simp only [Act.put, List.setIfInBounds_toArray, List.set_cons_zero, List.set_cons_succ, i64_w, i32_w]
                rfl
              refine pure_ (i := 1) (N := some 74) (v := ?_) (a' := ?_) #[true, true, false, false, false, false, false, false, false, false, false, false, false, false, false, false, false, false] rfl rfl (by kernel_rfl) (fun _ _ _ h => h) (Or.inl ⟨by rfl, ?_⟩) ?_ ?_
              rotate_left
              · intro w'
                go_simp
                with_reducible rfl
              rotate_left
              · simp only [Act.put, List.setIfInBounds_toArray, List.set_cons_zero, List.set_cons_succ, i64_w, i32_w]
                rfl
              refine pure_ (i := 2) (N := some 75) (v := ?_) (a' := ?_) #[true, true, true, false, false, false, false, false, false, false, false, false, false, false, false, false, false, false] rfl rfl (by kernel_rfl) (fun _ _ _ h => h) (Or.inl ⟨by rfl, ?_⟩) ?_ ?_
              rotate_left
              · intro w'
                go_simp
                with_reducible rfl
              rotate_left
              · simp only [Act.put, List.setIfInBounds_toArray, List.set_cons_zero, List.set_cons_succ, i64_w, i32_w]
                rfl
              refine pure_ (i := 3) (N := some 76) (v := ?_) (a' := ?_) #[true, true, true, true, false, false, false, false, false, false, false, false, false, false, false, false, false, false] rfl rfl (by kernel_rfl) (fun _ _ _ h => h) (Or.inl ⟨by rfl, ?_⟩) ?_ ?_
              rotate_left
              · intro w'
                go_simp
                with_reducible rfl
              rotate_left
              · simp only [Act.put, List.setIfInBounds_toArray, List.set_cons_zero, List.set_cons_succ, i64_w, i32_w]
                rfl
              refine take_ (i := 4) (N := some 77) (v := ?_) (a' := ?_) #[true, true, true, true, true, false, false, false, false, false, false, false, false, false, false, false, false, false] rfl rfl (by kernel_rfl) (fun _ _ _ h => h) (Or.inl ⟨by rfl, ?_⟩) hHeld ?_ ?_
              rotate_left
              · rintro w' ⟨s0_, s1_⟩
                go_simp
                with_reducible rfl
              rotate_left
              · simp only [Act.put, List.setIfInBounds_toArray, List.set_cons_zero, List.set_cons_succ, i64_w, i32_w]
                rfl
              refine pure_ (i := 5) (N := some 78) (v := ?_) (a' := ?_) #[true, true, true, true, true, true, false, false, false, false, false, false, false, false, false, false, false, false] rfl rfl (by kernel_rfl) (fun _ _ _ h => h) (Or.inl ⟨by rfl, ?_⟩) ?_ ?_
              rotate_left
              · intro w'
                go_simp
                with_reducible rfl
              rotate_left
              · simp only [Act.put, List.setIfInBounds_toArray, List.set_cons_zero, List.set_cons_succ, i64_w, i32_w]
                rfl
              refine pure_ (i := 6) (N := some 79) (v := ?_) (a' := ?_) #[true, true, true, true, true, true, true, false, false, false, false, false, false, false, false, false, false, false] rfl rfl (by kernel_rfl) (fun _ _ _ h => h) (Or.inl ⟨by rfl, ?_⟩) ?_ ?_
              rotate_left
              · intro w'
                go_simp
                with_reducible rfl
              rotate_left
              · simp only [Act.put, List.setIfInBounds_toArray, List.set_cons_zero, List.set_cons_succ, i64_w, i32_w]
                rfl
              refine pure_ (i := 7) (N := some 80) (v := ?_) (a' := ?_) #[true, true, true, true, true, true, true, true, false, false, false, false, false, false, false, false, false, false] rfl rfl (by kernel_rfl) (fun _ _ _ h => h) (Or.inl ⟨by rfl, ?_⟩) ?_ ?_
              rotate_left
              · intro w'
                go_simp
                with_reducible rfl
              rotate_left
              · simp only [Act.put, List.setIfInBounds_toArray, List.set_cons_zero, List.set_cons_succ, i64_w, i32_w]
                rfl
              refine pure_ (i := 8) (N := some 81) (v := ?_) (a' := ?_) #[true, true, true, true, true, true, true, true, true, false, false, false, false, false, false, false, false, false] rfl rfl (by kernel_rfl) (fun _ _ _ h => h) (Or.inl ⟨by rfl, ?_⟩) ?_ ?_
              rotate_left
              · intro w'
                go_simp
                with_reducible rfl
              rotate_left
              · simp only [Act.put, List.setIfInBounds_toArray, List.set_cons_zero, List.set_cons_succ, i64_w, i32_w]
                rfl
              refine pure_ (i := 9) (N := some 82) (v := ?_) (a' := ?_) #[true, true, true, true, true, true, true, true, true, true, false, false, false, false, false, false, false, false] rfl rfl (by kernel_rfl) (fun _ _ _ h => h) (Or.inl ⟨by rfl, ?_⟩) ?_ ?_
              rotate_left
              · intro w'
                go_simp
                with_reducible rfl
              rotate_left
              · simp only [Act.put, List.setIfInBounds_toArray, List.set_cons_zero, List.set_cons_succ, i64_w, i32_w]
                rfl
              refine pure_ (i := 10) (N := some 83) (v := ?_) (a' := ?_) #[true, true, true, true, true, true, true, true, true, true, true, false, false, false, false, false, false, false] rfl rfl (by kernel_rfl) (fun _ _ _ h => h) (Or.inl ⟨by rfl, ?_⟩) ?_ ?_
              rotate_left
              · intro w'
                go_simp
                with_reducible rfl
              rotate_left
              · simp only [Act.put, List.setIfInBounds_toArray, List.set_cons_zero, List.set_cons_succ, i64_w, i32_w]
                rfl
              refine take_ (i := 11) (N := some 84) (v := ?_) (a' := ?_) #[true, true, true, true, true, true, true, true, true, true, true, true, false, false, false, false, false, false] rfl rfl (by kernel_rfl) (fun _ _ _ h => h) (Or.inl ⟨by rfl, ?_⟩) hHeld ?_ ?_
              rotate_left
              · rintro w' ⟨s0_, s1_⟩
                go_simp
                with_reducible rfl
              rotate_left
              · simp only [Act.put, List.setIfInBounds_toArray, List.set_cons_zero, List.set_cons_succ, i64_w, i32_w]
                rfl
              refine pure_ (i := 12) (N := some 85) (v := ?_) (a' := ?_) #[true, true, true, true, true, true, true, true, true, true, true, true, true, false, false, false, false, false] rfl rfl (by kernel_rfl) (fun _ _ _ h => h) (Or.inl ⟨by rfl, ?_⟩) ?_ ?_
              rotate_left
              · intro w'
                go_simp
                with_reducible rfl
              rotate_left
              · simp only [Act.put, List.setIfInBounds_toArray, List.set_cons_zero, List.set_cons_succ, i64_w, i32_w]
                rfl
              refine one_ (i := 13) (N := some 86) #[true, true, true, true, true, true, true, true, true, true, true, true, true, true, false, false, false, false] rfl rfl (by kernel_rfl) (by decide) (fun K hK => ?_)
              refine value_ (v := .slice (some ⟨w7.heap.size, 0, none⟩) 1 1) (w1 := w7.drew.alloc (.cells #[.int .u8 (bt a0 (i : Int)), .int .i64 r.1] 200)) (by rfl) rfl ?_ ?_
              · go_simp
                rw [HBT.out]
              refine hK.out _ _ (HHE.out _ (Below.heap_alloc _ _ _ (lt_of_blk HML.out))) (fun hHeld => ?_)
              clear hK K
              refine norm_ (a' := ?_) ?_ ?_
              rotate_left
              · show Act.put _ (some 86) _ = _
                simp only [Act.put, List.setIfInBounds_toArray, List.set_cons_zero, List.set_cons_succ, i64_w, i32_w]
                rfl
              refine one_ (i := 14) (N := some 87) #[true, true, true, true, true, true, true, true, true, true, true, true, true, true, true, false, false, false] rfl rfl (by kernel_rfl) (by decide) (fun K hK => ?_)
              refine Kd.R_append_step k200 (w0 := w7.drew) (w3.heap.size + 2) (by rfl) (.tmp 77) (.tmp 86) 189 200 (.agg #[.int .u8 0, .int .i64 0]) 16 rfl Try.underlying189 info_200 rfl (by decide) (by omega) (.slice U q.2.2.length cu) q.2.2 ⟨bt a0 (i : Int), r.1⟩ [.int .u8 (bt a0 (i : Int)), .int .i64 r.1] (fun _ => True) (fun _ => False) rfl rfl (k200_mkM _ _ _ ⟨bt a0 (i : Int), r.1⟩) (fun _ h => h.elim) (fun _ _ => trivial) (Kd.R_mono HRL.out (fun _ _ => trivial)) (Below.refl _ _) (HBSw7.out) (HLIM.out.1) ?_
              intro v8 w8 ho8 hb8 hg8 hat8
              obtain ⟨U8, c8, hv8⟩ := Kd.R_slice ho8
              rw [List.length_append, List.length_singleton] at hv8
              subst hv8
              have e8 := hb8.block w3.heap.size (by omega)
              have HM8 := Aside0.mk (e8.trans HML.out)
              have hp8 := pair_app HP7.out HML.out ho8 hb8 hg8 hat8
              have HP8 := Aside0.mk hp8
              clear ho8 hb8 hg8 hat8 hp8
              refine hK.out _ _ (HHE.out _ e8) (fun hHeld => ?_)
              clear hK K
              refine norm_ (a' := ?_) ?_ ?_
              rotate_left
              · show Act.put _ (some 87) _ = _
                simp only [Act.put, List.setIfInBounds_toArray, List.set_cons_zero, List.set_cons_succ, i64_w, i32_w]
                rfl
              clear e8
              refine pure_ (i := 15) (N := some 88) (v := ?_) (a' := ?_) #[true, true, true, true, true, true, true, true, true, true, true, true, true, true, true, true, false, false] rfl rfl (by kernel_rfl) (fun _ _ _ h => h) (Or.inl ⟨by rfl, ?_⟩) ?_ ?_
              rotate_left
              · intro w'
                go_simp
                with_reducible rfl
              rotate_left
              · simp only [Act.put, List.setIfInBounds_toArray, List.set_cons_zero, List.set_cons_succ, i64_w, i32_w]
                rfl
              refine pure_ (i := 16) (N := some 89) (v := ?_) (a' := ?_) #[true, true, true, true, true, true, true, true, true, true, true, true, true, true, true, true, true, false] rfl rfl (by kernel_rfl) (fun _ _ _ h => h) (Or.inl ⟨by rfl, ?_⟩) ?_ ?_
              rotate_left
              · intro w'
                go_simp
                with_reducible rfl
              rotate_left
              · simp only [Act.put, List.setIfInBounds_toArray, List.set_cons_zero, List.set_cons_succ, i64_w, i32_w]
                rfl
              refine last_ (i := 17) (N := none) #[true, true, true, true, true, true, true, true, true, true, true, true, true, true, true, true, true, true] rfl rfl (by kernel_rfl) (by decide) (fun K hK => ?_)
              have s8 := (cells_of_blk HM8.out 2).trans rfl
              have sf8 := free_of_blk HM8.out 2
              refine skip_ (w1 := w8.setCell ⟨w3.heap.size, 2, none⟩ (.slice U8 (q.2.2.length + 1) c8)) (by rfl) rfl ?_ ?_
              · go_simp
              refine hK.out _ _ (done_ (by kernel_rfl) ?_)
              clear hK K s8 sf8 HM8 HHE
              try clear hHeld
              generalize w8.setCell ⟨w3.heap.size, 2, none⟩ (.slice U8 (q.2.2.length + 1) c8) = W8 at *
              have HP8a := Aside0.mk HP8.out
              clear HP8 HML HRL HMR HRR
              have hcr := pair_cells (pair_swap HP8a.out)
              obtain ⟨_, _, V9, cv9, aR9, hmR9, hRR9⟩ := hcr
              have HMR := Aside0.mk hmR9
              have HRR := Aside0.mk hRR9
              clear hmR9 hRR9
              have HBSW8 : Aside0 (w3.heap.size + 2 ≤ W8.heap.size) := ⟨HP8a.out.choose_spec.choose_spec.2.2.2.2.2.2.2.2⟩
              go_upto_region 17 with (fail)
              have hHold : W8.drew.cell? ⟨(w3.heap.size + 1), 1, none⟩ = some (.int .i64 q.1) ∧ W8.drew.cell? ⟨(w3.heap.size + 1), 2, none⟩ = some (.slice V9 q.2.1.length cv9) :=
                ⟨(cells_of_blk HMR.out 1).trans rfl, (cells_of_blk HMR.out 2).trans rfl⟩
              have hHE : ∀ W' : World, W'.heap[(w3.heap.size + 1)]? = W8.heap[(w3.heap.size + 1)]? → (W'.cell? ⟨(w3.heap.size + 1), 1, none⟩ = some (.int .i64 q.1) ∧ W'.cell? ⟨(w3.heap.size + 1), 2, none⟩ = some (.slice V9 q.2.1.length cv9)) :=
                fun W' h => ⟨(cells_of_blk (h.trans HMR.out) 1).trans rfl, (cells_of_blk (h.trans HMR.out) 2).trans rfl⟩
              have HHE := Aside0.mk hHE
              clear hHE
              refine start_ (n := 18) (S := fun w' => w'.cell? ⟨(w3.heap.size + 1), 1, none⟩ = some (.int .i64 q.1) ∧ w'.cell? ⟨(w3.heap.size + 1), 2, none⟩ = some (.slice V9 q.2.1.length cv9)) (ds := [17]) #[false, false, false, false, false, false, false, false, false, false, false, false, false, false, false, false, false, false] (by kernel_rfl) rfl rfl (hHold) (fun hHeld => ?_)
              clear hHold
              refine pure_ (i := 0) (N := some 90) (v := ?_) (a' := ?_) #[true, false, false, false, false, false, false, false, false, false, false, false, false, false, false, false, false, false] rfl rfl (by kernel_rfl) (fun _ _ _ h => h) (Or.inl ⟨by rfl, ?_⟩) ?_ ?_
              rotate_left
              · intro w'
                go_simp
                with_reducible rfl
              rotate_left
              · simp only [Act.put, List.setIfInBounds_toArray, List.set_cons_zero, List.set_cons_succ, i64_w, i32_w]
                rfl
              refine pure_ (i := 1) (N := some 91) (v := ?_) (a' := ?_) #[true, true, false, false, false, false, false, false, false, false, false, false, false, false, false, false, false, false] rfl rfl (by kernel_rfl) (fun _ _ _ h => h) (Or.inl ⟨by rfl, ?_⟩) ?_ ?_
              rotate_left
              · intro w'
                go_simp
                with_reducible rfl
              rotate_left
              · simp only [Act.put, List.setIfInBounds_toArray, List.set_cons_zero, List.set_cons_succ, i64_w, i32_w]
                rfl
              refine pure_ (i := 2) (N := some 92) (v := ?_) (a' := ?_) #[true, true, true, false, false, false, false, false, false, false, false, false, false, false, false, false, false, false] rfl rfl (by kernel_rfl) (fun _ _ _ h => h) (Or.inl ⟨by rfl, ?_⟩) ?_ ?_
              rotate_left
              · intro w'
                go_simp
                with_reducible rfl
              rotate_left
              · simp only [Act.put, List.setIfInBounds_toArray, List.set_cons_zero, List.set_cons_succ, i64_w, i32_w]
                rfl
              refine pure_ (i := 3) (N := some 93) (v := ?_) (a' := ?_) #[true, true, true, true, false, false, false, false, false, false, false, false, false, false, false, false, false, false] rfl rfl (by kernel_rfl) (fun _ _ _ h => h) (Or.inl ⟨by rfl, ?_⟩) ?_ ?_
              rotate_left
              · intro w'
                go_simp
                with_reducible rfl
              rotate_left
              · simp only [Act.put, List.setIfInBounds_toArray, List.set_cons_zero, List.set_cons_succ, i64_w, i32_w]
                rfl
              refine take_ (i := 4) (N := some 94) (v := ?_) (a' := ?_) #[true, true, true, true, true, false, false, false, false, false, false, false, false, false, false, false, false, false] rfl rfl (by kernel_rfl) (fun _ _ _ h => h) (Or.inl ⟨by rfl, ?_⟩) hHeld ?_ ?_
              rotate_left
              · rintro w' ⟨s0_, s1_⟩
                go_simp
                with_reducible rfl
              rotate_left
              · simp only [Act.put, List.setIfInBounds_toArray, List.set_cons_zero, List.set_cons_succ, i64_w, i32_w]
                rfl
              refine pure_ (i := 5) (N := some 95) (v := ?_) (a' := ?_) #[true, true, true, true, true, true, false, false, false, false, false, false, false, false, false, false, false, false] rfl rfl (by kernel_rfl) (fun _ _ _ h => h) (Or.inl ⟨by rfl, ?_⟩) ?_ ?_
              rotate_left
              · intro w'
                go_simp
                with_reducible rfl
              rotate_left
              · simp only [Act.put, List.setIfInBounds_toArray, List.set_cons_zero, List.set_cons_succ, i64_w, i32_w]
                rfl
              refine pure_ (i := 6) (N := some 96) (v := ?_) (a' := ?_) #[true, true, true, true, true, true, true, false, false, false, false, false, false, false, false, false, false, false] rfl rfl (by kernel_rfl) (fun _ _ _ h => h) (Or.inl ⟨by rfl, ?_⟩) ?_ ?_
              rotate_left
              · intro w'
                go_simp
                with_reducible rfl
              rotate_left
              · simp only [Act.put, List.setIfInBounds_toArray, List.set_cons_zero, List.set_cons_succ, i64_w, i32_w]
                rfl
              refine pure_ (i := 7) (N := some 97) (v := ?_) (a' := ?_) #[true, true, true, true, true, true, true, true, false, false, false, false, false, false, false, false, false, false] rfl rfl (by kernel_rfl) (fun _ _ _ h => h) (Or.inl ⟨by rfl, ?_⟩) ?_ ?_
              rotate_left
              · intro w'
                go_simp
                with_reducible rfl
              rotate_left
              · simp only [Act.put, List.setIfInBounds_toArray, List.set_cons_zero, List.set_cons_succ, i64_w, i32_w]
                rfl
              refine pure_ (i := 8) (N := some 98) (v := ?_) (a' := ?_) #[true, true, true, true, true, true, true, true, true, false, false, false, false, false, false, false, false, false] rfl rfl (by kernel_rfl) (fun _ _ _ h => h) (Or.inl ⟨by rfl, ?_⟩) ?_ ?_
              rotate_left
              · intro w'
                go_simp
                with_reducible rfl
              rotate_left
              · simp only [Act.put, List.setIfInBounds_toArray, List.set_cons_zero, List.set_cons_succ, i64_w, i32_w]
                rfl
              refine pure_ (i := 9) (N := some 99) (v := ?_) (a' := ?_) #[true, true, true, true, true, true, true, true, true, true, false, false, false, false, false, false, false, false] rfl rfl (by kernel_rfl) (fun _ _ _ h => h) (Or.inl ⟨by rfl, ?_⟩) ?_ ?_
              rotate_left
              · intro w'
                go_simp
                with_reducible rfl
              rotate_left
              · simp only [Act.put, List.setIfInBounds_toArray, List.set_cons_zero, List.set_cons_succ, i64_w, i32_w]
                rfl
              refine pure_ (i := 10) (N := some 100) (v := ?_) (a' := ?_) #[true, true, true, true, true, true, true, true, true, true, true, false, false, false, false, false, false, false] rfl rfl (by kernel_rfl) (fun _ _ _ h => h) (Or.inl ⟨by rfl, ?_⟩) ?_ ?_
              rotate_left
              · intro w'
                go_simp
                with_reducible rfl
              rotate_left
              · simp only [Act.put, List.setIfInBounds_toArray, List.set_cons_zero, List.set_cons_succ, i64_w, i32_w]
                rfl
              refine take_ (i := 11) (N := some 101) (v := ?_) (a' := ?_) #[true, true, true, true, true, true, true, true, true, true, true, true, false, false, false, false, false, false] rfl rfl (by kernel_rfl) (fun _ _ _ h => h) (Or.inl ⟨by rfl, ?_⟩) hHeld ?_ ?_
              rotate_left
              · rintro w' ⟨s0_, s1_⟩
                go_simp
                with_reducible rfl
              rotate_left
              · simp only [Act.put, List.setIfInBounds_toArray, List.set_cons_zero, List.set_cons_succ, i64_w, i32_w]
                rfl
              refine pure_ (i := 12) (N := some 102) (v := ?_) (a' := ?_) #[true, true, true, true, true, true, true, true, true, true, true, true, true, false, false, false, false, false] rfl rfl (by kernel_rfl) (fun _ _ _ h => h) (Or.inl ⟨by rfl, ?_⟩) ?_ ?_
              rotate_left
              · intro w'
                go_simp
                with_reducible rfl
              rotate_left
              · simp only [Act.put, List.setIfInBounds_toArray, List.set_cons_zero, List.set_cons_succ, i64_w, i32_w]
                rfl
              refine one_ (i := 13) (N := some 103) #[true, true, true, true, true, true, true, true, true, true, true, true, true, true, false, false, false, false] rfl rfl (by kernel_rfl) (by decide) (fun K hK => ?_)
              refine value_ (v := .slice (some ⟨W8.heap.size, 0, none⟩) 1 1) (w1 := W8.drew.alloc (.cells #[.int .u8 (bt a0 (i : Int)), .int .i64 q.1] 200)) (by rfl) rfl ?_ ?_
              · go_simp
                rw [HBT.out]
              refine hK.out _ _ (HHE.out _ (Below.heap_alloc _ _ _ (lt_of_blk HMR.out))) (fun hHeld => ?_)
              clear hK K
              refine norm_ (a' := ?_) ?_ ?_
              rotate_left
              · show Act.put _ (some 103) _ = _
                simp only [Act.put, List.setIfInBounds_toArray, List.set_cons_zero, List.set_cons_succ, i64_w, i32_w]
                rfl
              refine one_ (i := 14) (N := some 104) #[true, true, true, true, true, true, true, true, true, true, true, true, true, true, true, false, false, false] rfl rfl (by kernel_rfl) (by decide) (fun K hK => ?_)
              refine Kd.R_append_step k200 (w0 := W8.drew) (w3.heap.size + 2) (by rfl) (.tmp 94) (.tmp 103) 189 200 (.agg #[.int .u8 0, .int .i64 0]) 16 rfl Try.underlying189 info_200 rfl (by decide) (by omega) (.slice V9 q.2.1.length cv9) q.2.1 ⟨bt a0 (i : Int), q.1⟩ [.int .u8 (bt a0 (i : Int)), .int .i64 q.1] (fun _ => True) (fun _ => False) rfl rfl (k200_mkM _ _ _ ⟨bt a0 (i : Int), q.1⟩) (fun _ h => h.elim) (fun _ _ => trivial) (Kd.R_mono HRR.out (fun _ _ => trivial)) (Below.refl _ _) (HBSW8.out) (HLIM.out.2) ?_
              intro v8 w8 ho8 hb8 hg8 hat8
              obtain ⟨U8, c8, hv8⟩ := Kd.R_slice ho8
              rw [List.length_append, List.length_singleton] at hv8
              subst hv8
              have e8 := hb8.block (w3.heap.size + 1) (by omega)
              have HM8 := Aside0.mk (e8.trans HMR.out)
              have hp8 := pair_app (pair_swap HP8a.out) HMR.out ho8 hb8 hg8 hat8
              have HP8 := Aside0.mk hp8
              clear ho8 hb8 hg8 hat8 hp8
              refine hK.out _ _ (HHE.out _ e8) (fun hHeld => ?_)
              clear hK K
              refine norm_ (a' := ?_) ?_ ?_
              rotate_left
              · show Act.put _ (some 104) _ = _
                simp only [Act.put, List.setIfInBounds_toArray, List.set_cons_zero, List.set_cons_succ, i64_w, i32_w]
                rfl
              clear e8
              refine pure_ (i := 15) (N := some 105) (v := ?_) (a' := ?_) #[true, true, true, true, true, true, true, true, true, true, true, true, true, true, true, true, false, false] rfl rfl (by kernel_rfl) (fun _ _ _ h => h) (Or.inl ⟨by rfl, ?_⟩) ?_ ?_
              rotate_left
              · intro w'
                go_simp
                with_reducible rfl
              rotate_left
              · simp only [Act.put, List.setIfInBounds_toArray, List.set_cons_zero, List.set_cons_succ, i64_w, i32_w]
                rfl
              refine pure_ (i := 16) (N := some 106) (v := ?_) (a' := ?_) #[true, true, true, true, true, true, true, true, true, true, true, true, true, true, true, true, true, false] rfl rfl (by kernel_rfl) (fun _ _ _ h => h) (Or.inl ⟨by rfl, ?_⟩) ?_ ?_
              rotate_left
              · intro w'
                go_simp
                with_reducible rfl
              rotate_left
              · simp only [Act.put, List.setIfInBounds_toArray, List.set_cons_zero, List.set_cons_succ, i64_w, i32_w]
                rfl
              refine last_ (i := 17) (N := none) #[true, true, true, true, true, true, true, true, true, true, true, true, true, true, true, true, true, true] rfl rfl (by kernel_rfl) (by decide) (fun K hK => ?_)
              have s8 := (cells_of_blk HM8.out 2).trans rfl
              have sf8 := free_of_blk HM8.out 2
              refine skip_ (w1 := w8.setCell ⟨(w3.heap.size + 1), 2, none⟩ (.slice U8 (q.2.1.length + 1) c8)) (by rfl) rfl ?_ ?_
              · go_simp
              refine hK.out _ _ (done_ (by kernel_rfl) ?_)
              clear hK K s8 sf8 HM8 HHE
              try clear hHeld
              generalize w8.setCell ⟨(w3.heap.size + 1), 2, none⟩ (.slice U8 (q.2.1.length + 1) c8) = W9 at *
              have hcl := pair_cells (pair_swap HP8.out)
              have hcr := pair_cells HP8.out
              obtain ⟨y1, f1, _⟩ := hcl
              obtain ⟨y2, f2, _⟩ := hcr
              go_wp2
              go_roundg n
              case measure => omega
              case rel =>
                exact ⟨i + 1, by first | rfl | (congr 1; unfold wrap64; omega), by omega, ⟨_, HRUN.out, pair_swap (pair_off (q.1 + 1) (pair_swap (pair_off (r.1 + 1) (pair_swap HP8.out))))⟩⟩
    · rw [if_neg e1] at h
      injection h with h
      injection h with g1 h
      injection h with g2 g3
      subst g1 g2 g3
      have b1 : (eb != 0) = true := by simp [e1]
      clear e1
      go_enter Try.func72, Try.ntmps72
      go_upto_region 4 with (go_at_call 63; refine (textedit_Apply.calls k a0 A1 c1 l1 ra 0 _ HQ.out HCQ.out HA.out).mono ?_; rintro e w2 ⟨rfl, hb2⟩; (have HB2 := Aside0.mk hb2); clear hb2)
      go_wp2_with (go_at_call 63; refine (textedit_Apply.calls k a0 A2 c2 l2 rb eb _ (Kd.C_below HQ2.out HB2.out) HCQ2.out HB.out).mono ?_; rintro e w3 ⟨rfl, hb3⟩; (have HB3 := Aside0.mk (HB2.out.trans (hb3.mono HB2.out.size))); clear hb3)
      go_ret3
      exact ⟨.slice none 0 0, .slice none 0 0, rfl, Kd.R_nil _ _ _ _ _, Kd.R_nil _ _ _ _ _, HB3.out⟩
  · rw [if_neg e0] at h
    injection h with h
    injection h with g1 h
    injection h with g2 g3
    subst g1 g2 g3
    have b1 : (ea != 0) = true := by simp [e0]
    clear e0
    go_enter Try.func72, Try.ntmps72
    go_wp2_with (go_at_call 63; refine (textedit_Apply.calls k a0 A1 c1 l1 ra ea _ HQ.out HCQ.out HA.out).mono ?_; rintro e w2 ⟨rfl, hb2⟩; (have HB2 := Aside0.mk hb2); clear hb2)
    go_ret3
    exact ⟨.slice none 0 0, .slice none 0 0, rfl, Kd.R_nil _ _ _ _ _, Kd.R_nil _ _ _ _ _, HB2.out⟩
end

end Go.Proofs.Ytbfedkmiekbcmaa.QTexteditTransformEqualsReference
