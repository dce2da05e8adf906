/-
  InputsScript: what the law's rounds keep.
-/
import Derived.Test.YtogpjenmfgpfiaaHandIn5
namespace Go.Proofs.Ytogpjenmfgpfiaa.QInputsScript
open Go.RowKit Go.Proofs.YtogpjenmfgpfiaaW.PrintWords Go.Proofs.YtogpjenmfgpfiaaW.PrintLast Go.Proofs.YtogpjenmfgpfiaaW.PrintMore Go.Proofs.Ytogpjenmfgpfiaa.Hand Go.Proofs.Ytogpjenmfgpfiaa.Aid
attribute [local go_sem] max2_int min2_int max_two min_two max_three min_three max_four min_four
set_option linter.unusedVariables false
set_option linter.unusedSimpArgs false
def k34 : Kd S34 := Kd.iso (Kd.pair (Kd.int .i64) (Kd.pair (Kd.int .i64) (Kd.int .i64))) (fun x : S34 => (x.f0, x.f1, x.f2))
structure S36 where
  f0 : List Int
  f1 : ByteArray
def k36 : Kd S36 := Kd.iso (Kd.pair (Kd.slice 3 (Kd.int .i64)) Kd.string) (fun x : S36 => (x.f0, x.f1))
theorem at_T34 {w : World} {A : Option Addr} {n : Nat} {xs : List S34} (h : Kd.C k34 w A n xs) (i : Nat) (x : S34) (hx : xs[i]? = some x) : ∃ ad, A = some ad ∧ w.cell? (ad.add (i * 3)) = some (.int .i64 x.f0) ∧ w.cell? ⟨(ad.add (i * 3)).block, (ad.add (i * 3)).off + 1, none⟩ = some (.int .i64 x.f1) ∧ w.cell? ⟨(ad.add (i * 3)).block, (ad.add (i * 3)).off + 2, none⟩ = some (.int .i64 x.f2) := by
  have hl := (List.getElem?_eq_some_iff.1 hx).1
  obtain ⟨ad, c, e, _, hK, hc0⟩ := Kd.C_get h ⟨0, 0, 0⟩ (i : Int) (by omega) (by have := h.1; omega)
  rw [Int.toNat_natCast, List.getD_eq_getElem?_getD, hx] at hK
  rw [Int.toNat_natCast] at hc0
  have hc : ∀ j u, c[j]? = some u → w.cell? (ad.add (i * 3 + j)) = some u := hc0
  obtain ⟨_, _, rfl, rfl, _, _, rfl, rfl, rfl⟩ := hK
  exact ⟨ad, e, hc 0 _ rfl, by rw [← add_field _ _ 1 (by omega)]; exact hc 1 _ rfl, by rw [← add_field _ _ 2 (by omega)]; exact hc 2 _ rfl⟩
theorem at_T36 {w : World} {A : Option Addr} {n : Nat} {xs : List S36} (h : Kd.C k36 w A n xs) (i : Nat) (x : S36) (hx : xs[i]? = some x) : ∃ ad A0 c0, A = some ad ∧ w.cell? (ad.add (i * 2)) = some (.slice A0 x.f0.length c0) ∧ w.cell? ⟨(ad.add (i * 2)).block, (ad.add (i * 2)).off + 1, none⟩ = some (.string x.f1) ∧ x.f0.length ≤ c0 ∧ (Kd.int .i64).C w A0 x.f0.length x.f0 := by
  have hl := (List.getElem?_eq_some_iff.1 hx).1
  obtain ⟨ad, c, e, _, hK, hc0⟩ := Kd.C_get h ⟨[], ⟨#[]⟩⟩ (i : Int) (by omega) (by have := h.1; omega)
  rw [Int.toNat_natCast, List.getD_eq_getElem?_getD, hx] at hK
  rw [Int.toNat_natCast] at hc0
  have hc : ∀ j u, c[j]? = some u → w.cell? (ad.add (i * 2 + j)) = some u := hc0
  obtain ⟨_, _, rfl, ⟨A0, c0, rfl, l0, g0⟩, rfl⟩ := hK
  exact ⟨ad, A0, c0, e, hc 0 _ rfl, by rw [← add_field _ _ 1 (by omega)]; exact hc 1 _ rfl, l0, g0⟩
/-- An input that the law knows. -/
structure Kn where
  k : S34
  A : Option Addr
  c : Nat
  v : In
def Kn.enc (x : Kn) : List Value := [.int .i64 x.k.f0, .int .i64 x.k.f1, .int .i64 x.k.f2, .slice x.A x.v.nums.length x.c, .string x.v.text, .int .i64 x.v.chg, .int .i64 x.v.dur]
def kmap (kn : List Kn) : List (S34 × In) := kn.map (fun p => (p.k, p.v))
theorem info_40 : (Try.prog.info? 40).map (fun i => (i.zero, i.size, i.bytes)) = some (some (.agg #[.int .i64 0, .int .i64 0, .int .i64 0, .slice none 0 0, .string (⟨#[]⟩ : ByteArray), .int .i64 0, .int .i64 0]), 7, 80) := by kernel_rfl
/-- The memory behind a round: the store, the last changes, the list. -/
structure LI (w : World) (sb mb lb : Nat) (st : St) (a0 a1 a2 : Int) (kn : List Kn) (V : Option Addr) (cv : Nat) (W : World) : Prop where
  si : StI sb mb st W
  lx : W.heap[lb]? = some (.cells #[.int .i64 a0, .int .i64 a1, .int .i64 a2] 29 (0, 0))
  kr : Kd.R (Kd.raw 7) 40 W w.heap.size (fun k => some k = (Value.slice V kn.length cv).ownBlock) (.slice V kn.length cv) (kn.map Kn.enc)
  kv : ∀ p ∈ kn, p.v.nums.length ≤ p.c ∧ Kd.C (Kd.int .i64) w p.A p.v.nums.length p.v.nums
  bw : Below w.heap.size w W
  b1 : w.heap.size ≤ sb
  b2 : w.heap.size ≤ mb
  b3 : w.heap.size ≤ lb
section
variable {w : World} {sb mb lb : Nat} {st : St} {a0 a1 a2 : Int} {kn : List Kn} {V : Option Addr} {cv : Nat} {W W' : World}
theorem LI.apart (h : LI w sb mb lb st a0 a1 a2 kn V cv W) : sb ≠ mb ∧ sb ≠ lb ∧ mb ≠ lb ∧ ∀ k, (Value.slice V kn.length cv).ownBlock = some k → k ≠ sb ∧ k ≠ mb ∧ k ≠ lb := by
  obtain ⟨mr, _, h2, h3, _⟩ := h.si
  have hm := h3
  obtain ⟨es, cl, hes, _⟩ := h3
  refine ⟨(hm.cells h2).symm, ?_, hm.cells h.lx, fun k hk => ?_⟩
  · rintro rfl; have := h2.symm.trans h.lx; simp at this
  · obtain ⟨cells, hc⟩ := Kd.R_typed h.kr k hk
    refine ⟨?_, ?_, ?_⟩
    · rintro rfl; have := hc.symm.trans h2; simp at this
    · rintro rfl; have := hc.symm.trans hes; simp at this
    · rintro rfl; have := hc.symm.trans h.lx; simp at this
theorem LI.below (h : LI w sb mb lb st a0 a1 a2 kn V cv W) (hb : Below W.heap.size W W') : LI w sb mb lb st a0 a1 a2 kn V cv W' :=
  ⟨h.si.below hb, (hb.block _ (lt_of_blk h.lx)).trans h.lx, Kd.R_below h.kr hb, h.kv, h.bw.trans (hb.mono h.bw.size), h.b1, h.b2, h.b3⟩
/-- Behind Set. -/
theorem LI.sets {st' : St} (h : LI w sb mb lb st a0 a1 a2 kn V cv W) (hs : StI sb mb st' W') (hc : Chg (fun k => k = sb ∨ k = mb) W W') : LI w sb mb lb st' a0 a1 a2 kn V cv W' := by
  obtain ⟨n1, n2, n3, n4⟩ := h.apart
  refine ⟨hs, hc.at h.lx (fun e => by omega), Kd.R_step h.kr (fun k hk hlt => hc.block k hlt (fun e => ?_)), h.kv, h.bw.trans (hc.to_below (fun k _ e => ?_) h.bw.size), h.b1, h.b2, h.b3⟩
  · have := n4 k hk.symm; omega
  · have := h.b1; have := h.b2; omega
/-- The list's element j. -/
theorem LI.elem (h : LI w sb mb lb st a0 a1 a2 kn V cv W) (j : Nat) (p : Kn) (hp : kn[j]? = some p) : ∃ ad, V = some ad ∧ (∃ g, ad = ⟨g, 0, none⟩) ∧ (∀ t u, p.enc[t]? = some u → W.cell? (ad.add (j * 7 + t)) = some u) ∧ ∀ t, t < 7 → W.frozen? (ad.add (j * 7 + t)) = false := by
  have hl := (List.getElem?_eq_some_iff.1 hp).1
  obtain ⟨g, cap, he, _⟩ := Kd.R_form h.kr (by rw [List.length_map]; omega)
  rw [List.length_map] at he
  injection he with e1 _ e3
  subst e1 e3
  obtain ⟨c, hcl, hM, hcc, hfr⟩ := Kd.R_elem h.kr [] (j : Int) (by omega) (by omega)
  rw [Int.toNat_natCast, List.getD_eq_getElem?_getD, List.getElem?_map, hp] at hM
  obtain ⟨rfl, _⟩ := hM
  rw [Int.toNat_natCast] at hcc hfr
  exact ⟨_, rfl, ⟨g, rfl⟩, fun t u hu => by rw [add_plain]; exact hcc t u hu, fun t _ => by rw [add_plain]; exact hfr t⟩
end
end Go.Proofs.Ytogpjenmfgpfiaa.QInputsScript
