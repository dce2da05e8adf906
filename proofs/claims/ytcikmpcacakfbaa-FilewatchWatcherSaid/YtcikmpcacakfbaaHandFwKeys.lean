/-
  maps.Keys and slices.Sorted of it: the map's keys, sorted, told as a row of strings. Functions: 63 (keys of a map of events), 52 (keys of a map of numbers), 51 (Sorted), 65 (Sort).
-/
import Derived.Shelf.SlIter.Nil
import Derived.Shelf.SortM.Plain
import Derived.Shelf.SortM.SortNone
import Derived.Test.YtcikmpcacakfbaaHandFwOwn
import Derived.Test.YtcikmpcacakfbaaHandFwKeysA
import Derived.Test.YtcikmpcacakfbaaHandFwKeysB
import Derived.Test.YtcikmpcacakfbaaHandFwSorted
import Derived.Test.YtcikmpcacakfbaaHandFwSort
import Derived.Test.YtcikmpcacakfbaaWLast
import Derived.Test.YtcikmpcacakfbaaWMore
namespace Go.Proofs.Ytcikmpcacakfbaa.Hand
open Go.RowKit Go.Maps Go.Sort Go.Shelf Go.Proofs Go.Proofs.YtcikmpcacakfbaaW.PrintWords Go.Proofs.YtcikmpcacakfbaaW.PrintLast Go.Proofs.YtcikmpcacakfbaaW.PrintMore
set_option linter.unusedVariables false
set_option linter.unusedSimpArgs false
theorem R_strs {W : World} {base : Nat} {v : Value} (l : List ByteArray) (h : W.ownsRow base 9 1 v l.length (l.map Value.string)) : Kd.R Kd.string 9 W base (fun _ => True) v l :=
  ⟨fun _ _ => trivial, l.map Value.string, h, ⟨by rw [List.length_map]; exact (Nat.mul_one _).symm, fun j p hp => by
    show ((l.map Value.string).drop (j * 1)).take 1 = [Value.string p]
    obtain ⟨hj, rfl⟩ := List.getElem?_eq_some_iff.1 hp
    rw [Nat.mul_one, List.drop_eq_getElem_cons (by simpa using hj), List.take_succ_cons, List.take_zero, List.getElem_map]⟩⟩
theorem fwSorts (m : Nat) : AnyZ.SortsIn Try.prog FwSorted_ren Fence.wide m :=
  ⟨fun blk off cap ss W hH hblk hsz => callsIn_wide.2 (AnyM.slices_Sort_string FwSort_L blk off cap ss W hH hblk hsz),
   fun p cap W => callsIn_wide.2 (AnyM.slices_Sort_string_none FwSort_L p cap W)⟩
theorem row_strs {W : World} {base : Nat} {v : Value} {l : List ByteArray} (hl : l.Nodup) {ss : List (List UInt8)} (hp : ss.Perm (l.map (fun b => b.data.toList))) (h : W.ownsRow base 9 1 v ss.length ((ss.mergeSort (fun x y => decide (x ≤ y))).map encStr)) :
    Kd.R Kd.string 9 W base (fun _ => True) v (sortS l) := by
  rw [sorted_keys hl hp] at h
  have e1 : ((sortS l).map (fun b => b.data.toList)).map encStr = (sortS l).map Value.string := by
    rw [List.map_map]
    refine List.map_congr_left (fun x _ => ?_)
    simp [encStr]
  have e2 : ss.length = (sortS l).length := by rw [hp.length_eq, List.length_map, (sortS_perm hl).length_eq]
  rw [e1, e2] at h
  exact R_strs _ h
section
variable {W : World} {b : Nat} {m : List (ByteArray × Value)}
theorem keysA_calls (mb : Option Nat) (W : World) : Calls Try.prog 63 #[.map mb] W fun e w' => e = .returned (.func (.func 81) #[] #[.pointer (some ⟨W.heap.size, 0, none⟩)]) ∧ w' = W.alloc (.cells #[.map mb] 99) :=
  (callsIn_wide (n := 5)).1 (AnyZ.keys_in FwKeysA_L Fence.wide 5 trivial rfl mb W)
theorem keysB_calls (mb : Option Nat) (W : World) : Calls Try.prog 52 #[.map mb] W fun e w' => e = .returned (.func (.func 66) #[] #[.pointer (some ⟨W.heap.size, 0, none⟩)]) ∧ w' = W.alloc (.cells #[.map mb] 83) :=
  (callsIn_wide (n := 5)).1 (AnyZ.keys_in FwKeysB_L Fence.wide 5 trivial rfl mb W)
set_option maxHeartbeats 1000000 in
theorem sortedA_calls (h : MapIs Value.string W b m) (hnd : (m.map Prod.fst).Nodup) (hl : m.length ≤ 1000000) (hs : ∀ p ∈ m, p.1.size ≤ maxLen) :
    Calls Try.prog 51 #[.func (.func 81) #[] #[.pointer (some ⟨W.heap.size, 0, none⟩)]] (W.alloc (.cells #[.map (some b)] 99)) fun e w' => ∃ v, e = .returned v ∧ Kd.R Kd.string 9 w' (W.heap.size + 1) (fun _ => True) v (sortS (m.map Prod.fst)) ∧ Below (W.heap.size + 1) (W.alloc (.cells #[.map (some b)] 99)) w' := by
  obtain ⟨D0, hown, hperm, hsize⟩ := h.owns (P := Try.prog) (kt := 9) Try.underlying9 hnd (by unfold maxLen; omega) hs
  have hbl := hown.lt
  have hseq : SeqGives Fence.wide 2 Try.prog 81 #[.pointer (some ⟨W.heap.size, 0, none⟩)] encStr (fun ss => ss.Perm (strKeys D0)) (Maps.size D0) (W.alloc (.cells #[.map (some b)] 99)) :=
    AnyZ.keys_gives (ρ := FwKeysA_ren) { FwKeysA_L with } Fence.wide _ trivial rfl (by omega) W.heap.size b m.length D0 _ (by simp) (by simp) (by
      obtain ⟨es, clock, hb, Ft, hs, hD⟩ := hown
      exact ⟨es, clock, (Below.heap_alloc _ _ b hbl).trans hb, Ft, hs, hD⟩)
  have cS := AnyZ.sorted_in FwSorted_L Fence.wide 5 trivial trivial trivial trivial rfl (by omega) (fwSorts _) (enters_of Try.func65 (by kernel_rfl) rfl) 81 #[.pointer (some ⟨W.heap.size, 0, none⟩)] trivial (enters_of Try.func81 (by kernel_rfl) rfl) _ _ (by rw [hsize]; unfold maxLen; omega) (by rw [hsize]; omega) _ hseq
  refine ((callsIn_wide (n := 5)).1 cS).mono ?_
  rintro e w' ⟨v, ss, rfl, hS, hrow, hnil, hb⟩
  refine ⟨v, rfl, ?_, ?_⟩
  · have := row_strs hnd ((hS.trans hperm).trans (List.Perm.of_eq (by rw [List.map_map]; rfl))) hrow
    simpa using this
  · simpa using hb
set_option maxHeartbeats 1000000 in
theorem sortedB_calls (h : MapIs Value.string W b m) (hnd : (m.map Prod.fst).Nodup) (hl : m.length ≤ 1000000) (hs : ∀ p ∈ m, p.1.size ≤ maxLen) :
    Calls Try.prog 51 #[.func (.func 66) #[] #[.pointer (some ⟨W.heap.size, 0, none⟩)]] (W.alloc (.cells #[.map (some b)] 83)) fun e w' => ∃ v, e = .returned v ∧ Kd.R Kd.string 9 w' (W.heap.size + 1) (fun _ => True) v (sortS (m.map Prod.fst)) ∧ Below (W.heap.size + 1) (W.alloc (.cells #[.map (some b)] 83)) w' := by
  obtain ⟨D0, hown, hperm, hsize⟩ := h.owns (P := Try.prog) (kt := 9) Try.underlying9 hnd (by unfold maxLen; omega) hs
  have hbl := hown.lt
  have hseq : SeqGives Fence.wide 2 Try.prog 66 #[.pointer (some ⟨W.heap.size, 0, none⟩)] encStr (fun ss => ss.Perm (strKeys D0)) (Maps.size D0) (W.alloc (.cells #[.map (some b)] 83)) :=
    AnyZ.keys_gives (ρ := FwKeysB_ren) { FwKeysB_L with } Fence.wide _ trivial rfl (by omega) W.heap.size b m.length D0 _ (by simp) (by simp) (by
      obtain ⟨es, clock, hb, Ft, hs, hD⟩ := hown
      exact ⟨es, clock, (Below.heap_alloc _ _ b hbl).trans hb, Ft, hs, hD⟩)
  have cS := AnyZ.sorted_in FwSorted_L Fence.wide 5 trivial trivial trivial trivial rfl (by omega) (fwSorts _) (enters_of Try.func65 (by kernel_rfl) rfl) 66 #[.pointer (some ⟨W.heap.size, 0, none⟩)] trivial (enters_of Try.func66 (by kernel_rfl) rfl) _ _ (by rw [hsize]; unfold maxLen; omega) (by rw [hsize]; omega) _ hseq
  refine ((callsIn_wide (n := 5)).1 cS).mono ?_
  rintro e w' ⟨v, ss, rfl, hS, hrow, hnil, hb⟩
  refine ⟨v, rfl, ?_, ?_⟩
  · have := row_strs hnd ((hS.trans hperm).trans (List.Perm.of_eq (by rw [List.map_map]; rfl))) hrow
    simpa using this
  · simpa using hb
end
end Go.Proofs.Ytcikmpcacakfbaa.Hand
