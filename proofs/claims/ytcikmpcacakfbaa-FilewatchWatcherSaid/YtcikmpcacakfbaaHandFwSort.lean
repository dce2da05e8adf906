/-
  The shelf's laying of SlLaysM.n6 at function 65 of this program (written by genshelf.py).
-/
import Derived.Shelf.SlLaysM
import Derived.WalkKit
import Derived.KernelRfl
import Derived.Test.YtcikmpcacakfbaaProg
namespace Go.Proofs.Ytcikmpcacakfbaa.Hand
open Go.Shelf Go.Proofs Go.RowKit
def FwSort_ren : Go.Shelf.Ren where
  f := fun x => match x with
    | 6 => 65
    | 8 => 58
    | 9 => 83
    | 19 => 76
    | 20 => 77
    | 21 => 89
    | 22 => 90
    | 23 => 91
    | 24 => 92
    | 25 => 93
    | 26 => 94
    | 27 => 95
    | 28 => 96
    | 29 => 97
    | 36 => 99
    | 31 => 85
    | 32 => 86
    | 37 => 100
    | 38 => 101
    | 39 => 102
    | 41 => 103
    | n => n
  t := fun x => match x with
    | 27 => 39
    | 29 => 9
    | 3 => 3
    | 32 => 93
    | 26 => 39
    | 0 => 0
    | 44 => 66
    | 46 => 96
    | 4 => 4
    | 36 => 105
    | 35 => 104
    | 41 => 109
    | 5 => 5
    | 9 => 9
    | 53 => 118
    | 57 => 122
    | 63 => 130
    | 64 => 131
    | n => n
  g := fun n => n
theorem FwSort_L : SlLaysM.n6 Try.prog FwSort_ren where
  mixed := by kernel_rfl
  f6 := ⟨Try.f65.name, by kernel_rfl, by kernel_rfl⟩
  f8 := by kernel_rfl
  f9 := ⟨Try.f83.name, by kernel_rfl, by kernel_rfl⟩
  f19 := by kernel_rfl
  f20 := by kernel_rfl
  f21 := ⟨Try.f89.name, by kernel_rfl, by kernel_rfl⟩
  f22 := ⟨Try.f90.name, by kernel_rfl, by kernel_rfl⟩
  f23 := ⟨Try.f91.name, by kernel_rfl, by kernel_rfl⟩
  f24 := ⟨Try.f92.name, by kernel_rfl, by kernel_rfl⟩
  f25 := ⟨Try.f93.name, by kernel_rfl, by kernel_rfl⟩
  f26 := ⟨Try.f94.name, by kernel_rfl, by kernel_rfl⟩
  f27 := ⟨Try.f95.name, by kernel_rfl, by kernel_rfl⟩
  f28 := ⟨Try.f96.name, by kernel_rfl, by kernel_rfl⟩
  f29 := ⟨Try.f97.name, by kernel_rfl, by kernel_rfl⟩
  f31 := by kernel_rfl
  f32 := by kernel_rfl
  f36 := ⟨Try.f99.name, by kernel_rfl, by kernel_rfl⟩
  f37 := ⟨Try.f100.name, by kernel_rfl, by kernel_rfl⟩
  f38 := ⟨Try.f101.name, by kernel_rfl, by kernel_rfl⟩
  f39 := ⟨Try.f102.name, by kernel_rfl, by kernel_rfl⟩
  f41 := ⟨Try.f103.name, by kernel_rfl, by kernel_rfl⟩
  t0 := Try.underlying0
  a0 := Try.isAgg0
  z0 := Try.sizeOf0
  v0 := Try.zeroValue0
  t3 := Try.underlying3
  a3 := Try.isAgg3
  z3 := Try.sizeOf3
  v3 := Try.zeroValue3
  t4 := Try.underlying4
  a4 := Try.isAgg4
  z4 := Try.sizeOf4
  v4 := Try.zeroValue4
  t5 := Try.underlying5
  a5 := Try.isAgg5
  z5 := Try.sizeOf5
  v5 := Try.zeroValue5
  t9 := Try.underlying9
  a9 := Try.isAgg9
  z9 := Try.sizeOf9
  v9 := Try.zeroValue9
  t26 := Try.underlying39
  a26 := Try.isAgg39
  z26 := Try.sizeOf39
  v26 := Try.zeroValue39
  t27 := Try.underlying39
  a27 := Try.isAgg39
  z27 := Try.sizeOf39
  v27 := Try.zeroValue39
  t29 := Try.underlying9
  a29 := Try.isAgg9
  z29 := Try.sizeOf9
  v29 := Try.zeroValue9
  t32 := Try.underlying93
  a32 := Try.isAgg93
  z32 := Try.sizeOf93
  v32 := Try.zeroValue93
  t35 := Try.underlying104
  a35 := Try.isAgg104
  z35 := Try.sizeOf104
  v35 := Try.zeroValue104
  t36 := Try.underlying105
  a36 := Try.isAgg105
  z36 := Try.sizeOf105
  v36 := Try.zeroValue105
  t41 := Try.underlying109
  a41 := Try.isAgg109
  z41 := Try.sizeOf109
  v41 := Try.zeroValue109
  t44 := Try.underlying66
  a44 := Try.isAgg66
  z44 := Try.sizeOf66
  v44 := Try.zeroValue66
  t46 := Try.underlying96
  a46 := Try.isAgg96
  z46 := Try.sizeOf96
  v46 := Try.zeroValue96
  t53 := Try.underlying118
  a53 := Try.isAgg118
  z53 := Try.sizeOf118
  v53 := Try.zeroValue118
  t57 := Try.underlying122
  a57 := Try.isAgg122
  z57 := Try.sizeOf122
  v57 := Try.zeroValue122
  t63 := Try.underlying130
  a63 := Try.isAgg130
  z63 := Try.sizeOf130
  v63 := Try.zeroValue130
  t64 := Try.underlying131
  a64 := Try.isAgg131
  z64 := Try.sizeOf131
  v64 := Try.zeroValue131
end Go.Proofs.Ytcikmpcacakfbaa.Hand
