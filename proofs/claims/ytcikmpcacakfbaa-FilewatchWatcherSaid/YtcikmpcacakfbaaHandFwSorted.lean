/-
  The shelf's laying of SlLaysZ.n6 at function 51 of this program (written by genshelf.py).
-/
import Derived.Shelf.SlLaysZ
import Derived.WalkKit
import Derived.KernelRfl
import Derived.Test.YtcikmpcacakfbaaProg
namespace Go.Proofs.Ytcikmpcacakfbaa.Hand
open Go.Shelf Go.Proofs Go.RowKit
def FwSorted_ren : Go.Shelf.Ren where
  f := fun x => match x with
    | 6 => 51
    | 8 => 64
    | 9 => 65
    | 11 => 82
    | 13 => 58
    | 12 => 83
    | 23 => 76
    | 24 => 77
    | 14 => 89
    | 15 => 90
    | 16 => 91
    | 17 => 92
    | 18 => 93
    | 19 => 94
    | 20 => 95
    | 21 => 96
    | 22 => 97
    | 25 => 99
    | 26 => 85
    | 27 => 86
    | 28 => 100
    | 29 => 101
    | 30 => 102
    | 31 => 103
    | n => n
  t := fun x => match x with
    | 26 => 9
    | 28 => 86
    | 24 => 39
    | 0 => 0
    | 3 => 3
    | 37 => 93
    | 48 => 66
    | 50 => 96
    | 4 => 4
    | 40 => 105
    | 39 => 104
    | 45 => 109
    | 5 => 5
    | 9 => 9
    | 51 => 118
    | 55 => 122
    | 57 => 130
    | 58 => 131
    | 33 => 37
    | n => n
  g := fun n => n
theorem FwSorted_L : SlLaysZ.n6 Try.prog FwSorted_ren where
  mixed := by kernel_rfl
  f6 := ⟨Try.f51.name, by kernel_rfl, by kernel_rfl⟩
  f8 := ⟨Try.f64.name, by kernel_rfl, by kernel_rfl⟩
  f11 := ⟨Try.f82.name, by kernel_rfl, by kernel_rfl⟩
  t0 := Try.underlying0
  a0 := Try.isAgg0
  z0 := Try.sizeOf0
  v0 := Try.zeroValue0
  t24 := Try.underlying39
  a24 := Try.isAgg39
  z24 := Try.sizeOf39
  v24 := Try.zeroValue39
  t26 := Try.underlying9
  a26 := Try.isAgg9
  z26 := Try.sizeOf9
  v26 := Try.zeroValue9
  t28 := Try.underlying86
  a28 := Try.isAgg86
  z28 := Try.sizeOf86
  v28 := Try.zeroValue86
  i26 := by kernel_rfl
end Go.Proofs.Ytcikmpcacakfbaa.Hand
