/-
  The shelf's laying of SlLaysZ.n7 at function 52 of this program (written by genshelf.py).
-/
import Derived.Shelf.SlLaysZ
import Derived.WalkKit
import Derived.KernelRfl
import Derived.Test.YtcikmpcacakfbaaProg
namespace Go.Proofs.Ytcikmpcacakfbaa.Hand
open Go.Shelf Go.Proofs Go.RowKit
def FwKeysB_ren : Go.Shelf.Ren where
  f := fun x => match x with
    | 7 => 52
    | 10 => 66
    | n => n
  t := fun x => match x with
    | 23 => 83
    | 26 => 9
    | 3 => 3
    | 28 => 86
    | 0 => 0
    | 27 => 85
    | 33 => 37
    | 4 => 4
    | n => n
  g := fun n => n
theorem FwKeysB_L : SlLaysZ.n7 Try.prog FwKeysB_ren where
  mixed := by kernel_rfl
  f7 := ⟨Try.f52.name, by kernel_rfl, by kernel_rfl⟩
  f10 := ⟨Try.f66.name, by kernel_rfl, by kernel_rfl⟩
  t0 := Try.underlying0
  a0 := Try.isAgg0
  z0 := Try.sizeOf0
  v0 := Try.zeroValue0
  t4 := Try.underlying4
  a4 := Try.isAgg4
  z4 := Try.sizeOf4
  v4 := Try.zeroValue4
  t23 := Try.underlying83
  a23 := Try.isAgg83
  z23 := Try.sizeOf83
  v23 := Try.zeroValue83
  t26 := Try.underlying9
  a26 := Try.isAgg9
  z26 := Try.sizeOf9
  v26 := Try.zeroValue9
  t27 := Try.underlying85
  a27 := Try.isAgg85
  z27 := Try.sizeOf85
  v27 := Try.zeroValue85
  t28 := Try.underlying86
  a28 := Try.isAgg86
  z28 := Try.sizeOf86
  v28 := Try.zeroValue86
  t33 := Try.underlying37
  a33 := Try.isAgg37
  z33 := Try.sizeOf37
  v33 := Try.zeroValue37
end Go.Proofs.Ytcikmpcacakfbaa.Hand
