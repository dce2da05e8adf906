/-
  A map told as a list, as the shelf's contracts on maps.Keys and slices.Sorted want it: its keys.
-/
import Derived.Test.YtcikmpcacakfbaaHandMap
import Derived.Test.YtcikmpcacakfbaaHandSortLaw
import Derived.Sort.KeysCollected
namespace Go.Proofs.Ytcikmpcacakfbaa.Hand
open Go.RowKit Go.Maps Go.Sort
set_option linter.unusedVariables false
set_option linter.unusedSimpArgs false
theorem MapIs.owns {W : World} {P : Program} {kt : TypeId} {b : Nat} {m : List (ByteArray × Value)} (h : MapIs Value.string W b m) (hk : P.underlying kt = some .string) (hnd : (m.map Prod.fst).Nodup) (hl : m.length ≤ maxLen) (hs : ∀ p ∈ m, p.1.size ≤ maxLen) :
    ∃ D0 : DataW Unit, W.ownsMap P kt (fun _ => some (.lit (.bool false), [])) b m.length D0 ∧ (strKeys D0).Perm (m.map (fun p => p.1.data.toList)) ∧ Maps.size D0 = m.length := by
  obtain ⟨es, clock, hb, h1, h2, h3, h4⟩ := h
  have hlen : es.toList.length = m.length := by simpa using congrArg List.length h1
  have hkey : ∀ x ∈ es.toList, ∃ s : ByteArray, x.key = .string s ∧ s.size ≤ maxLen := by
    intro x hx
    have : x.key ∈ es.toList.map (·.key) := List.mem_map_of_mem hx
    rw [h1] at this
    obtain ⟨p, hp, e⟩ := List.mem_map.1 this
    exact ⟨p.1, e.symm, hs p hp⟩
  have hrd : ∀ x ∈ es.toList, ∀ s : ByteArray, x.key = .string s → s.size ≤ maxLen → Go.WideElems.rd P kt (fun _ => some ((.lit (.bool false) : DataW Unit), [])) x = some (.string s.data.toList, .lit (.bool false)) := by
    intro x hx s e hz
    have hko : keyOf P kt x.key = some (.string s.data.toList) := by
      rw [e]
      simp [keyOf, hk, mapKey, hz]
    simp [Go.WideElems.rd, hko]
  have hst : Go.MapKept.Stamped es clock := by
    refine (Go.MapKept.stamped_iff es clock).2 ⟨h4, ?_, ?_⟩
    · rw [List.Nodup, List.pairwise_map]
      exact h3.imp (fun h e => by omega)
    · have hn2 : (es.toList.map (·.key)).Nodup := by
        rw [h1]
        have : m.map (fun p => Value.string p.1) = (m.map Prod.fst).map Value.string := by rw [List.map_map]; rfl
        rw [this]
        exact (List.pairwise_map.2 (hnd.imp (fun hne e => hne (by injection e))))
      exact List.pairwise_map.1 hn2
  have hF : Go.WideElems.Fit P kt (fun _ => some ((.lit (.bool false) : DataW Unit), [])) es clock := by
    refine ⟨by rw [← Array.length_toList, hlen]; exact hl, hst, fun x hx => ?_⟩
    obtain ⟨s, e, hz⟩ := hkey x hx
    exact ⟨_, hrd x hx s e hz⟩
  have hperm := Go.WideShapes.sorted_perm (es.toList.map (Go.WideElems.rg P kt (fun _ => some ((.lit (.bool false) : DataW Unit), []))))
  refine ⟨_, ⟨es, clock, hb, hF, by rw [← hlen, Array.length_toList]; exact Nat.le_refl _, rfl⟩, ?_, ?_⟩
  · show (List.map (fun p : Lit × DataW Unit => strOf p.1) _).Perm _
    refine (hperm.map _).trans (List.Perm.of_eq ?_)
    rw [List.map_map]
    have : m.map (fun p => p.1.data.toList) = (es.toList.map (·.key)).map (fun v => match v with | .string s => s.data.toList | _ => []) := by
      rw [h1, List.map_map]
      rfl
    rw [this, List.map_map]
    refine List.map_congr_left (fun x hx => ?_)
    obtain ⟨s, e, hz⟩ := hkey x hx
    show strOf (Go.WideElems.rg P kt (fun _ => some ((.lit (.bool false) : DataW Unit), [])) x).1 = (match x.key with | .string s => s.data.toList | _ => [])
    rw [Go.WideElems.rg_of (hrd x hx s e hz), e]
    rfl
  · show (List.foldr DataW.insert [] _).length = _
    rw [hperm.length_eq, List.length_map, hlen]
end Go.Proofs.Ytcikmpcacakfbaa.Hand
