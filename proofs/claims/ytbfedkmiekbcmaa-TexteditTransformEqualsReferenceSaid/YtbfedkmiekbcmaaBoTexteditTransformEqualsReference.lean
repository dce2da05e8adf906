/-
  Apply's answer and the tracks of what it makes, for the laws of Compose and Transform.
-/
import Derived.Test.YtbfedkmiekbcmaaCoTexteditTransformEqualsReference
namespace Go.Proofs.Ytbfedkmiekbcmaa.PrTexteditTransformEqualsReference
open Go.RowKit Go.Proofs.YtbfedkmiekbcmaaW.PrintWords Go.Proofs.YtbfedkmiekbcmaaW.PrintLast Go.Proofs.YtbfedkmiekbcmaaW.PrintMore Go.Proofs.Ytbfedkmiekbcmaa.QTexteditTransformEqualsReference Go.Proofs.Ytbfedkmiekbcmaa.Aid
set_option linter.unusedSimpArgs false
set_option linter.unusedVariables false
set_option linter.unusedSectionVars false
theorem eqE0 (ks : List S137) (hl : ks.length ≤ 1000) : ∀ (d i : Nat), i + d = ks.length → Ev (fun k => glossatorref4_EqualEdits.l0 k ks ks (i : Int)) true := by
  intro d
  induction d with
  | zero =>
    intro i hi
    refine Ev.some' (fun k => ?_)
    simp only [glossatorref4_EqualEdits.l0]
    rw [if_neg (by omega)]
  | succ d ih =>
    intro i hi
    refine Ev.stepK (ih (i + 1) (by omega)) (fun k => ?_)
    simp only [glossatorref4_EqualEdits.l0]
    rw [if_pos (by omega), if_pos (by omega), if_pos (by omega), if_neg (by simp), wrap_id (n := (i : Int) + 1) (by omega) (by omega)]
    rfl
theorem eqE_ev (ks : List S137) (hl : ks.length ≤ 1000) : Ev (fun k => glossatorref4_EqualEdits.f k ks ks) true := by
  unfold glossatorref4_EqualEdits.f
  exact Ev.pos rfl (eqE0 ks hl ks.length 0 (by omega))
/-- Apply's text. -/
def apS (src : ByteArray) (l : List S137) : ByteArray := ⟨(ap src.data.toList l 0).toArray⟩
theorem val_zero {src : ByteArray} {l : List S137} (h : valP src l = 0) : src.size ≤ 2000 ∧ l.length ≤ 50 ∧ vP src.size l (-1) src.size = 0 := by
  unfold valP at h
  split at h
  · cases h
  · next c => exact ⟨by omega, by omega, h⟩
theorem apply_ev (src : ByteArray) (l : List S137) (hi : ∀ e ∈ l, e.f2.size ≤ 140737488351232) : Ev (fun k => textedit_Apply.f k src l) (if valP src l = 0 then apS src l else ⟨#[]⟩, valP src l) := by
  have hV := validate_ev src l hi
  unfold textedit_Apply.f
  refine Ev.bind hV ?_
  by_cases c : valP src l = 0
  · obtain ⟨h1, h2, h3⟩ := val_zero c
    have hA0 : applyP src l 0 [] = some ⟨(ap src.data.toList l 0).toArray⟩ := by
      have := applyP_ok src h1 l (-1) 0 [] (by omega) (by omega) (by omega) (by omega) (fun e _ h => by omega) (by simpa using h3) (by simp)
      simpa using this
    refine Ev.pos c ?_
    rw [hA0, if_pos c, c]
    exact Ev.now _
  · refine Ev.neg c ?_
    rw [if_neg c]
    exact Ev.now _
theorem vP_sum (sz : Int) : ∀ (t : List S137) (p n : Int), vP sz t p n = 0 → n + shP t ≤ 2000 := by
  intro t
  induction t with
  | nil =>
    intro p n h
    rw [vP] at h
    split at h
    · cases h
    · rw [shP]; omega
  | cons e t ih =>
    intro p n h
    rw [vP] at h
    split at h
    · cases h
    · split at h
      · cases h
      · split at h
        · cases h
        · have := ih _ _ h
          rw [shP]; omega
theorem trS_bytes (src : ByteArray) : (trS src).map (fun x => x.f0) = src.data.toList.map (fun b => (b.toNat : Int)) := by
  refine List.ext_getElem? (fun j => ?_)
  by_cases c : j < src.size
  · have hl : j < src.data.toList.length := by simpa using c
    have h1 := bt_getD src j c
    rw [List.getD_eq_getElem?_getD, List.getElem?_eq_getElem hl, Option.getD_some] at h1
    rw [List.getElem?_map, List.getElem?_map, trS_get src c, List.getElem?_eq_getElem hl, Option.map_some, Option.map_some, h1]
  · have hl : ¬ j < src.data.toList.length := by simpa using c
    rw [List.getElem?_eq_none (by rw [List.length_map, trS_length]; omega), List.getElem?_eq_none (by rw [List.length_map]; omega)]
section
variable {S : ByteArray} {l : List S137} (bs : List S200) (hb : bs.map (fun x => x.f0) = S.data.toList.map (fun b => (b.toNat : Int))) (hv : valP S l = 0)
include hb hv
theorem tr_len : bs.length = S.size := by
  have := congrArg List.length hb
  simpa using this
/-- What a valid list of edits makes of traced bytes. -/
theorem tr_all : Vd bs.length (-1) l ∧ textedit_applyTraced.f bs l = some (apT bs l 0) ∧ refT l bs 0 = apT bs l 0 ∧ (apT bs l 0).map (fun x => x.f0) = (apS S l).data.toList.map (fun b => (b.toNat : Int)) ∧ (apT bs l 0).length = (apS S l).size ∧ (apS S l).size ≤ 2000 ∧ ((apS S l).size : Int) = S.size + shP l := by
  have hlen := tr_len bs hb hv
  obtain ⟨h1, h2, h3⟩ := val_zero hv
  have hvd := vd_of _ _ _ _ h3
  have hsum := vP_sum _ _ _ _ h3
  have hb2 := apT_bytes hb l 0
  have hap := ap_length (B := S.data.toList) (t := l) (p := -1) (o := 0) hvd (.inr rfl) (by omega) (by omega)
  have e1 : ((apS S l).size : Int) = ((ap S.data.toList l 0).length : Int) := rfl
  have e2 : S.data.toList.length = S.size := rfl
  rw [e2] at hap
  have e3 : (apT bs l 0).length = (apS S l).size := by
    have := congrArg List.length hb2
    rw [List.length_map, List.length_map] at this
    exact this
  refine ⟨by rw [hlen]; exact hvd, ?_, refT_ok (by rw [hlen]; exact hvd), hb2, e3, by omega, by omega⟩
  have := trP_ok bs (by omega) l (-1) 0 [] (by omega) (by omega) (by omega) (by omega) (fun e _ h => by omega) (by rw [hlen]; simpa using h3) (by simp)
  rw [List.nil_append] at this
  exact this
end
end Go.Proofs.Ytbfedkmiekbcmaa.PrTexteditTransformEqualsReference
