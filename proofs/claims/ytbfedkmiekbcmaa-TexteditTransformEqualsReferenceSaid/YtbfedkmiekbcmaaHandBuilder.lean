/-
  strings.Builder at this program: the shelf's contracts, laid by hand (the shelf's command wants every type named in a body; one is named in none).
-/
import Derived.Shelf.Strings.BuilderK
import Derived.Test.YtbfedkmiekbcmaaProg
namespace Go.Proofs.Ytbfedkmiekbcmaa.Hand
open Go.Shelf Go.Proofs
def bren : Go.Shelf.Ren where
  f := fun x => match x with
    | 166 => 113
    | 169 => 114
    | 240 => 138
    | 276 => 148
    | n => n
  t := fun x => match x with
    | 70 => 180
    | 9 => 9
    | 0 => 0
    | 72 => 182
    | 37 => 143
    | 127 => 218
    | 3 => 3
    | 5 => 5
    | 4 => 4
    | 20 => 20
    | 75 => 184
    | 80 => 187
    | 164 => 227
    | n => n
  g := fun n => n
theorem blays166 : Lays.n166 Try.prog bren where
  mixed := by kernel_rfl
  f166 := by kernel_rfl
  f240 := by kernel_rfl
  f276 := by kernel_rfl
  t0 := Try.underlying0
  a0 := Try.isAgg0
  z0 := Try.sizeOf0
  v0 := Try.zeroValue0
  t3 := Try.underlying3
  a3 := Try.isAgg3
  z3 := Try.sizeOf3
  v3 := Try.zeroValue3
  t4 := Try.underlying4
  a4 := Try.isAgg4
  z4 := Try.sizeOf4
  v4 := Try.zeroValue4
  t9 := Try.underlying9
  a9 := Try.isAgg9
  z9 := Try.sizeOf9
  v9 := Try.zeroValue9
  t20 := Try.underlying20
  a20 := Try.isAgg20
  z20 := Try.sizeOf20
  v20 := Try.zeroValue20
  t37 := Try.underlying143
  a37 := Try.isAgg143
  z37 := Try.sizeOf143
  v37 := Try.zeroValue143
  t70 := Try.underlying180
  a70 := Try.isAgg180
  z70 := Try.sizeOf180
  v70 := Try.zeroValue180
  t72 := Try.underlying182
  a72 := Try.isAgg182
  z72 := Try.sizeOf182
  v72 := Try.zeroValue182
  t75 := Try.underlying184
  a75 := Try.isAgg184
  z75 := Try.sizeOf184
  v75 := Try.zeroValue184
  t164 := Try.underlying227
  a164 := Try.isAgg227
  z164 := Try.sizeOf227
  v164 := Try.zeroValue227
theorem bextra : Builder.Extra Try.prog bren where
  sizeBuilder := by kernel_rfl
  liesBuilder := by kernel_rfl
  t5 := Try.underlying5
  a5 := Try.isAgg5
  z5 := Try.sizeOf5
  v5 := Try.zeroValue5
  infoByte := by kernel_rfl
  cellsByte := by kernel_rfl
  sizeByte := by kernel_rfl
  neB5 := by decide
theorem blays169 : Lays.n169 Try.prog bren where
  mixed := by kernel_rfl
  f169 := by kernel_rfl
  t0 := Try.underlying0
  a0 := Try.isAgg0
  z0 := Try.sizeOf0
  v0 := Try.zeroValue0
  t3 := Try.underlying3
  a3 := Try.isAgg3
  z3 := Try.sizeOf3
  v3 := Try.zeroValue3
  t9 := Try.underlying9
  a9 := Try.isAgg9
  z9 := Try.sizeOf9
  v9 := Try.zeroValue9
  t37 := Try.underlying143
  a37 := Try.isAgg143
  z37 := Try.sizeOf143
  v37 := Try.zeroValue143
  t70 := Try.underlying180
  a70 := Try.isAgg180
  z70 := Try.sizeOf180
  v70 := Try.zeroValue180
  t72 := Try.underlying182
  a72 := Try.isAgg182
  z72 := Try.sizeOf182
  v72 := Try.zeroValue182
  t127 := Try.underlying218
  a127 := Try.isAgg218
  z127 := Try.sizeOf218
  v127 := Try.zeroValue218
open Go.RowKit in
theorem bWrite (B b : Nat) (bs : List Value) (s : ByteArray) (w : World) (h : Lib.IsBuilderF 182 5 B b bs w) (hlen : bs.length + s.size ≤ 140737488355328) (hBw : B ≤ w.heap.size) :
    Calls Try.prog 113 #[.pointer (some ⟨b, 0, none⟩), .string s] w fun e w' => e = .returned (.tuple #[.int .i64 s.size, .nilIface]) ∧ (Lib.BuilderAtF 182 5 B b (.pointer (some ⟨b, 0, none⟩)) (bs ++ Lib.strCells s) w' ∧ Below B w w' ∧ Lib.OthersKept 5 (some b) w w') := Any.Builder_WriteString_k blays166 bextra B b bs s w h hlen hBw
open Go.RowKit in
theorem bString (B b : Nat) (l : List UInt8) (w : World) (h : Lib.IsBuilderF 182 5 B b (Lib.byteCells l) w) (hBw : B ≤ w.heap.size) :
    Calls Try.prog 114 #[.pointer (some ⟨b, 0, none⟩)] w fun e w' => e = .returned (.string ⟨l.toArray⟩) ∧ (Lib.IsBuilderF 182 5 B b (Lib.byteCells l) w' ∧ Below B w w' ∧ Lib.OthersKept 5 (some b) w w') := Any.Builder_String_any_k blays169 bextra B b l w h hBw
end Go.Proofs.Ytbfedkmiekbcmaa.Hand
