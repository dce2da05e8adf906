/-
  What applyTraced gives, over lists.
-/
import Derived.Test.YtbfedkmiekbcmaaApTexteditTransformEqualsReference
namespace Go.Proofs.Ytbfedkmiekbcmaa.PrTexteditTransformEqualsReference
open Go.RowKit Go.Proofs.YtbfedkmiekbcmaaW.PrintWords Go.Proofs.YtbfedkmiekbcmaaW.PrintLast Go.Proofs.YtbfedkmiekbcmaaW.PrintMore Go.Proofs.Ytbfedkmiekbcmaa.QTexteditTransformEqualsReference Go.Proofs.Ytbfedkmiekbcmaa.Aid
set_option linter.unusedSimpArgs false
set_option linter.unusedVariables false
def apT (bs : List S200) : List S137 → Nat → List S200
  | [], off => bs.drop off
  | e :: t, off => (bs.take e.f0.toNat).drop off ++ insB (-1) e.f2 ++ apT bs t e.f1.toNat
theorem trP_ok (bs : List S200) (hs : bs.length ≤ 4000) : ∀ (t : List S137) (p : Int) (off : Nat) (acc : List S200), p ≤ off → -1 ≤ p → (off : Int) ≤ p + 1 → (off : Int) ≤ bs.length → (∀ e ∈ t, (p < e.f0 → (off : Int) ≤ e.f0)) → vP bs.length t p (acc.length + bs.length - off) = 0 → acc.length ≤ 100000 →
    trP bs t (off : Int) acc = some (acc ++ apT bs t off) := by
  intro t
  induction t with
  | nil =>
    intro p off acc h1 h2 h2' h3 h3' h4 h5
    rw [trP, if_pos (by omega), if_pos h3, if_pos (by omega), apT, Int.toNat_natCast]
  | cons e t ih =>
    intro p off acc h1 h2 h2' h3 h3' h4 h5
    rw [vP] at h4
    split at h4
    · cases h4
    · next c1 =>
      split at h4
      · cases h4
      · next c2 =>
        split at h4
        · cases h4
        · next c3 =>
          have hoff := h3' e (List.mem_cons_self ..) (by omega)
          have hle := vP_le _ _ _ _ h4 (by omega)
          rw [trP, if_pos (by omega), if_pos hoff, if_pos (by omega), Int.toNat_natCast, if_pos (by omega)]
          obtain ⟨j, hj⟩ : ∃ j : Nat, e.f1 = (j : Int) := ⟨e.f1.toNat, by omega⟩
          have hll : ((acc ++ (bs.take e.f0.toNat).drop off ++ insB (-1) e.f2).length : Int) = acc.length + (e.f0 - off) + e.f2.size := by
            rw [List.length_append, List.length_append, List.length_drop, List.length_take, insB_length]; push_cast; omega
          rw [hj, ih e.f1 j _ (by omega) (by omega) (by omega) (by omega) (fun e' _ h => by omega) (by rw [hll, show (acc.length : Int) + (e.f0 - off) + e.f2.size + bs.length - j = acc.length + bs.length - off + (e.f2.size - (e.f1 - e.f0)) by omega]; exact h4) (by omega)]
          rw [apT, hj, Int.toNat_natCast, List.append_assoc, List.append_assoc, List.append_assoc]
theorem apT_bytes {bs : List S200} {B : List UInt8} (h : bs.map (fun x => x.f0) = B.map (fun b => (b.toNat : Int))) : ∀ (t : List S137) (off : Nat), (apT bs t off).map (fun x => x.f0) = (ap B t off).map (fun b => (b.toNat : Int)) := by
  intro t
  induction t with
  | nil => intro off; rw [apT, ap, List.map_drop, List.map_drop, h]
  | cons e t ih =>
    intro off
    rw [apT, ap, List.map_append, List.map_append, List.map_append, List.map_append, List.map_drop, List.map_drop, List.map_take, List.map_take, h, ih]
    congr 2
    unfold insB
    rw [List.map_map]
    rfl
end Go.Proofs.Ytbfedkmiekbcmaa.PrTexteditTransformEqualsReference
