-- Written by gen.py (this repo's wip/), which runs the kit's print.py with more arms. Lean checks it.
import Derived.Test.YtglckkkjfcomlaaProg
import Derived.Below
import Derived.Deep.Draws
import Derived.Deep.AppendLies
import Derived.Maps.AppendAt
import Derived.OwnWalk
import Derived.Laws.BytesArg
import Derived.Laws.MakeOwn
import Derived.Laws.OwnMore
import Derived.Deep.OwnRows
import Derived.Tactics
import Derived.Lib.ConvBytes
import Derived.Laws.Slices
import Derived.WalkKit
import Derived.KernelRfl
import Derived.RowKit3
import Derived.Deep.LoopGhost
import Derived.Deep.QuietTactic
import Derived.BigQuiet
import Derived.WideLaws
import Derived.Deep.DeepCutAuto
import Derived.Deep.CutBlock
import Derived.Deep.RegionHeld3
import Derived.Laws.Rows
import Derived.Lib.AppendStr
import Derived.ArgAppend
import Derived.Laws.IdiomCopy
import Derived.OrdersHeld
import Derived.Laws.BitsLemmas
import Derived.RowKit
import Derived.Lib.SliceRun
import Derived.Test.YtglckkkjfcomlaaHandChg
import Derived.Test.YtglckkkjfcomlaaHandInWords
import Derived.Test.YtglckkkjfcomlaaHandRound
import Derived.RangeFuncNested
import Derived.RangeFuncBound
import Derived.RangeFuncCalls
import Derived.RangeFuncLeaves
import Derived.RangeFuncBox
import Derived.Shelf.Abstract
import Derived.Shelf.RegionOpen
import Derived.OwnWalkIn
import Derived.TacticsInMore
import Derived.LoopNIn
import Derived.LoopIn
import Derived.Sort.LoopGhostIn
import Derived.Sort.CutIn
import Derived.Test.YtglckkkjfcomlaaWWords
import Derived.Test.YtglckkkjfcomlaaWLast
import Derived.Test.YtglckkkjfcomlaaWTab
import Derived.Test.YtglckkkjfcomlaaWFour
import Derived.Test.YtglckkkjfcomlaaWQPut
import Derived.Test.YtglckkkjfcomlaaWApart
import Derived.Test.YtglckkkjfcomlaaWArr
import Derived.Test.YtglckkkjfcomlaaWZeros
import Derived.Test.YtglckkkjfcomlaaWFoot
import Derived.Test.YtglckkkjfcomlaaWKept
import Derived.Test.YtglckkkjfcomlaaWShare
import Derived.Test.YtglckkkjfcomlaaWN
import Derived.Test.YtglckkkjfcomlaaWFootNe
import Derived.Test.YtglckkkjfcomlaaWAt
import Derived.Test.YtglckkkjfcomlaaWEqStruct
import Derived.Test.YtglckkkjfcomlaaWRepsOne
import Derived.Test.YtglckkkjfcomlaaWInv
import Derived.Test.YtglckkkjfcomlaaWInvWords
import Derived.Test.YtglckkkjfcomlaaWGuard
import Derived.Test.YtglckkkjfcomlaaWNEv
import Derived.Test.YtglckkkjfcomlaaWMore
namespace Go.Proofs.Ytglckkkjfcomlaa.QFixpointProofs
open Go.RowKit Go.Proofs.YtglckkkjfcomlaaW.PrintWords Go.Proofs.YtglckkkjfcomlaaW.PrintLast Go.Proofs.YtglckkkjfcomlaaW.PrintMore
attribute [local go_sem] max2_int min2_int max_two min_two max_three min_three max_four min_four   -- for this text's walks alone
set_option linter.unusedVariables false
set_option linter.unusedSimpArgs false



def errW : Option Int → Value
 | none => .nilIface
 | some c => .iface 0 (.int .i64 c)
theorem errW_none : errW none = .nilIface := rfl
theorem errW_some (c : Int) : errW (some c) = .iface 0 (.int .i64 c) := rfl

theorem info3 : (Try.prog.info? 3).map (fun i => (i.zero, i.size, i.bytes)) = some (some (.int .i64 0), 1, 8) := by kernel_rfl
theorem info4 : (Try.prog.info? 4).map (fun i => (i.zero, i.size, i.bytes)) = some (some (.bool false), 1, 1) := by kernel_rfl
theorem info29 : (Try.prog.info? 29).map (fun i => (i.zero, i.size, i.bytes)) = some (some (.slice none 0 0), 1, 24) := by kernel_rfl
theorem info49 : (Try.prog.info? 49).map (fun i => (i.zero, i.size, i.bytes)) = some (some (.slice none 0 0), 1, 24) := by kernel_rfl
theorem info58 : (Try.prog.info? 58).map (fun i => (i.zero, i.size, i.bytes)) = some (some (.agg #[(.int .i64 0), (.slice none 0 0)]), 2, 32) := by kernel_rfl
theorem info182 : (Try.prog.info? 182).map (fun i => (i.zero, i.size, i.bytes)) = some (some (.agg #[(.int .i64 0), (.int .i64 0), (.int .i64 0)]), 3, 24) := by kernel_rfl
-- the values' own types
def rd_L1 (xs : List (List Int)) (i : Int) : (List Int) := xs.getD i.toNat ([] : List Int)
theorem at_L1 {w : World} {A : Option Addr} {n : Nat} {xs : List (List Int)} (h : Kd.C (Kd.slice 3 (Kd.int .i64)) w A n xs) (i : Int) (h0 : 0 ≤ i) (h1 : i < n) : ∃ ad A0 c0, A = some ad ∧ w.cell? (ad.add i.toNat) = some (.slice A0 (rd_L1 xs i).length c0) ∧ (rd_L1 xs i).length ≤ c0 ∧ (Kd.int .i64).C w A0 (rd_L1 xs i).length (rd_L1 xs i) := by
 obtain ⟨ad, c, e, _, hK, hc0⟩ := Kd.C_get h ([] : List Int) i h0 h1
 have hc : ∀ j u, c[j]? = some u → w.cell? (ad.add (i.toNat * 1 + j)) = some u := hc0
 obtain ⟨A0, c0, rfl, l0, g0⟩ := hK
 exact ⟨ad, A0, c0, e, by have hq := hc 0 _ rfl; rwa [Nat.mul_one, Nat.add_zero] at hq, l0, g0⟩

/-! #### struct type 58 -/
structure S58 where
 f0 : Int
 f1 : (List Int)
def z58 : S58 := ⟨(0 : Int), ([] : List Int)⟩
def k58 : Kd S58 := Kd.iso (Kd.pair (Kd.int .i64) (Kd.slice 3 (Kd.int .i64))) (fun x : S58 => (x.f0, x.f1))
theorem k58_heap : Kd.Heap k58 := Kd.heap_iso _ (Kd.heap_pair (Kd.heap_int .i64) (Kd.heap_slice 3 (Kd.heap_int .i64)))
theorem k58_open {w : World} {x : S58} {cs : List Value} (h : k58.K w x cs) : ∃ A1 c1, cs = [.int .i64 x.f0, .slice A1 x.f1.length c1] ∧ x.f1.length ≤ c1 ∧ (Kd.int .i64).C w A1 x.f1.length x.f1 := by
 obtain ⟨_, _, rfl, rfl, ⟨A1, c1, rfl, l1, g1⟩⟩ := h
 exact ⟨A1, c1, rfl, l1, g1⟩
theorem k58_openM {w : World} {base : Nat} {ok : Nat → Prop} {x : S58} {cs : List Value} (h : k58.M w base ok x cs) : ∃ v1, cs = [.int .i64 x.f0, v1] ∧ (Kd.int .i64).R 3 w base ok v1 x.f1 := by
 obtain ⟨_, _, rfl, rfl, ⟨v1, rfl, g1⟩⟩ := h
 exact ⟨v1, rfl, g1⟩
theorem k58_mk (w : World) (x : S58) {A1 : Option Addr} {c1 : Nat} (l1 : x.f1.length ≤ c1) (g1 : (Kd.int .i64).C w A1 x.f1.length x.f1) : k58.K w x [.int .i64 x.f0, .slice A1 x.f1.length c1] := ⟨[.int .i64 x.f0], [.slice A1 x.f1.length c1], rfl, rfl, ⟨A1, c1, rfl, l1, g1⟩⟩
theorem k58_mkM (w : World) (base : Nat) (ok : Nat → Prop) (x : S58) {v1 : Value} (g1 : (Kd.int .i64).R 3 w base ok v1 x.f1) : k58.M w base ok x [.int .i64 x.f0, v1] := ⟨[.int .i64 x.f0], [v1], rfl, rfl, ⟨v1, rfl, g1⟩⟩
theorem k58_openF {W : World} {ok : Nat → Prop} {x : S58} {cs : List Value} (h : Kd.FK k58 W ok x cs) : ∃ A1 c1, cs = [.int .i64 x.f0, .slice A1 x.f1.length c1] ∧ x.f1.length ≤ c1 ∧ Kd.F (Kd.int .i64) W ok A1 x.f1.length x.f1 := by
 obtain ⟨A1, c1, rfl, l1, _⟩ := k58_open (Kd.FK_now h)
 exact ⟨A1, c1, rfl, l1, (fun W' hW => by obtain ⟨A1_, c1_, he, l1_, g1_⟩ := k58_open (h W' hW); injection (Option.some.inj (show some (Value.slice A1 x.f1.length c1) = some (Value.slice A1_ x.f1.length c1_) from congrArg (fun l => l[1]?) he)) with ha_ _ _; rw [ha_]; exact g1_)⟩
theorem k58_mkF (W : World) (ok : Nat → Prop) (x : S58) {A1 : Option Addr} {c1 : Nat} (l1 : x.f1.length ≤ c1) (g1 : Kd.F (Kd.int .i64) W ok A1 x.f1.length x.f1) : Kd.FK k58 W ok x [.int .i64 x.f0, .slice A1 x.f1.length c1] := fun W2 hW => k58_mk W2 x l1 (g1 W2 hW)
def rd_T58 (xs : List S58) (i : Int) : S58 := xs.getD i.toNat z58
theorem at_T58 {w : World} {A : Option Addr} {n : Nat} {xs : List S58} (h : Kd.C k58 w A n xs) (i : Int) (h0 : 0 ≤ i) (h1 : i < n) : ∃ ad A1 c1, A = some ad ∧ w.cell? (ad.add (i.toNat * 2)) = some (.int .i64 (rd_T58 xs i).f0) ∧ w.cell? ⟨(ad.add (i.toNat * 2)).block, (ad.add (i.toNat * 2)).off + 1, none⟩ = some (.slice A1 (rd_T58 xs i).f1.length c1) ∧ (rd_T58 xs i).f1.length ≤ c1 ∧ (Kd.int .i64).C w A1 (rd_T58 xs i).f1.length (rd_T58 xs i).f1 := by
 obtain ⟨ad, c, e, _, hK, hc0⟩ := Kd.C_get h z58 i h0 h1
 have hc : ∀ j u, c[j]? = some u → w.cell? (ad.add (i.toNat * 2 + j)) = some u := hc0
 obtain ⟨A1, c1, rfl, l1, g1⟩ := k58_open hK
 exact ⟨ad, A1, c1, e, hc 0 _ rfl, by rw [← add_field _ _ 1 (by omega)]; exact hc 1 _ rfl, l1, g1⟩

theorem kept_cell_eq {w W W_ : World} {S : Nat → Prop} (hk : Kept w W S) (hk_ : Kept w W_ S) (a : Addr) (hb : ¬ S a.block) (hlt : a.block < w.heap.size) : W_.cell? a = W.cell? a := by
 unfold World.cell?
 rw [hk.2 _ hlt hb, hk_.2 _ hlt hb]
theorem kept_block {α : Type} {d : Kd α} {w : World} {S : Nat → Prop} {A : Option Addr} {n : Nat} {xs : List α} (h : ∀ W_, Kept w W_ S → Kd.C d W_ A n xs) (hz : 0 < d.sz) (z : α) (hn : (0 : Int) < n) {ad : Addr} (hA : A = some ad) : ¬ S ad.block ∧ ad.block < w.heap.size := by
 have key : ∀ W, Kd.C d W A n xs → ∃ u, W.cell? (ad.add 0) = some u := by
  intro W hC
  obtain ⟨ad', c, e, hl, _, hc⟩ := Kd.C_get hC z 0 (by omega) hn
  rw [hA] at e
  obtain rfl := Option.some.inj e
  have hc0 : 0 < c.length := by omega
  have := hc 0 c[0] (List.getElem?_eq_getElem hc0)
  simp only [Int.toNat_zero, Nat.zero_mul, Nat.add_zero] at this
  exact ⟨_, this⟩
 have hb0 : (ad.add 0).block = ad.block := by simp [Addr.add]
 obtain ⟨u, hu⟩ := key w (h w (Kept.refl w S))
 have hlt : ad.block < w.heap.size := by have := World.block_lt_of_cell? w _ hu; rwa [hb0] at this
 refine ⟨fun hS => ?_, hlt⟩
 obtain ⟨v, hv⟩ := key { w with heap := w.heap.setIfInBounds ad.block (.coro none) } (h _ ⟨by simp, fun i hi hn => by
  have : i ≠ ad.block := fun e => hn (e ▸ hS)
  simp [Array.getElem?_setIfInBounds_ne (Ne.symm this)]⟩)
 unfold World.cell? at hv
 rw [hb0] at hv
 simp [Array.getElem?_setIfInBounds, hlt] at hv
theorem atk_T58 {w W : World} {S : Nat → Prop} {A : Option Addr} {n : Nat} {xs : List S58} (h : ∀ W_, Kept w W_ S → Kd.C k58 W_ A n xs) (hk : Kept w W S) (i : Int) (h0 : 0 ≤ i) (h1 : i < n) : ∃ ad A1 c1, A = some ad ∧ W.cell? (ad.add (i.toNat * 2)) = some (.int .i64 (rd_T58 xs i).f0) ∧ W.cell? ⟨(ad.add (i.toNat * 2)).block, (ad.add (i.toNat * 2)).off + 1, none⟩ = some (.slice A1 (rd_T58 xs i).f1.length c1) ∧ (rd_T58 xs i).f1.length ≤ c1 ∧ (∀ W_, Kept w W_ S → (Kd.int .i64).C W_ A1 (rd_T58 xs i).f1.length (rd_T58 xs i).f1) := by
 obtain ⟨ad, A1, c1, e, hc0, hc1, l0, g0⟩ := at_T58 (h W hk) i h0 h1
 have G0 : ∀ W_, Kept w W_ S → (Kd.int .i64).C W_ A1 (rd_T58 xs i).f1.length (rd_T58 xs i).f1 := by
  intro W_ hk_
  obtain ⟨ad2, A1', c1', e2, kc0, kc1, m0, n0⟩ := at_T58 (h W_ hk_) i h0 h1
  obtain rfl : ad2 = ad := by rw [e] at e2; exact (Option.some.inj e2).symm
  obtain ⟨hb, hlt⟩ := kept_block h (by decide) z58 (by omega) e
  have hbl : (⟨(ad2.add (i.toNat * 2)).block, (ad2.add (i.toNat * 2)).off + 1, none⟩ : Addr).block = ad2.block := by first | rfl | (simp only [Addr.add]; split <;> rfl)
  have same := kept_cell_eq hk hk_ (⟨(ad2.add (i.toNat * 2)).block, (ad2.add (i.toNat * 2)).off + 1, none⟩) (by rw [hbl]; exact hb) (by rw [hbl]; exact hlt)
  have eq_ := (kc1.symm.trans (same.trans hc1))
  simp only [Option.some.injEq, Value.slice.injEq, true_and] at eq_
  obtain ⟨rfl, rfl⟩ := eq_
  exact n0
 exact ⟨ad, A1, c1, e, hc0, hc1, l0, G0⟩
def rd_L3 (xs : List (List S58)) (i : Int) : (List S58) := xs.getD i.toNat ([] : List S58)
theorem at_L3 {w : World} {A : Option Addr} {n : Nat} {xs : List (List S58)} (h : Kd.C (Kd.slice 58 k58) w A n xs) (i : Int) (h0 : 0 ≤ i) (h1 : i < n) : ∃ ad A0 c0, A = some ad ∧ w.cell? (ad.add i.toNat) = some (.slice A0 (rd_L3 xs i).length c0) ∧ (rd_L3 xs i).length ≤ c0 ∧ k58.C w A0 (rd_L3 xs i).length (rd_L3 xs i) := by
 obtain ⟨ad, c, e, _, hK, hc0⟩ := Kd.C_get h ([] : List S58) i h0 h1
 have hc : ∀ j u, c[j]? = some u → w.cell? (ad.add (i.toNat * 1 + j)) = some u := hc0
 obtain ⟨A0, c0, rfl, l0, g0⟩ := hK
 exact ⟨ad, A0, c0, e, by have hq := hc 0 _ rfl; rwa [Nat.mul_one, Nat.add_zero] at hq, l0, g0⟩

theorem atk_L3 {w W : World} {S : Nat → Prop} {A : Option Addr} {n : Nat} {xs : List (List S58)} (h : ∀ W_, Kept w W_ S → Kd.C (Kd.slice 58 k58) W_ A n xs) (hk : Kept w W S) (i : Int) (h0 : 0 ≤ i) (h1 : i < n) : ∃ ad A0 c0, A = some ad ∧ W.cell? (ad.add i.toNat) = some (.slice A0 (rd_L3 xs i).length c0) ∧ (rd_L3 xs i).length ≤ c0 ∧ (∀ W_, Kept w W_ S → k58.C W_ A0 (rd_L3 xs i).length (rd_L3 xs i)) := by
 obtain ⟨ad, A0, c0, e, hc0, l0, g0⟩ := at_L3 (h W hk) i h0 h1
 have G0 : ∀ W_, Kept w W_ S → k58.C W_ A0 (rd_L3 xs i).length (rd_L3 xs i) := by
  intro W_ hk_
  obtain ⟨ad2, A0', c0', e2, kc0, m0, n0⟩ := at_L3 (h W_ hk_) i h0 h1
  obtain rfl : ad2 = ad := by rw [e] at e2; exact (Option.some.inj e2).symm
  obtain ⟨hb, hlt⟩ := kept_block h (by decide) ([] : List S58) (by omega) e
  have hbl : ((ad2.add i.toNat) : Addr).block = ad2.block := by first | rfl | (simp only [Addr.add]; split <;> rfl)
  have same := kept_cell_eq hk hk_ ((ad2.add i.toNat)) (by rw [hbl]; exact hb) (by rw [hbl]; exact hlt)
  have eq_ := (kc0.symm.trans (same.trans hc0))
  simp only [Option.some.injEq, Value.slice.injEq, true_and] at eq_
  obtain ⟨rfl, rfl⟩ := eq_
  exact n0
 exact ⟨ad, A0, c0, e, hc0, l0, G0⟩
/-! #### struct type 182 -/
structure S182 where
 f0 : Int
 f1 : Int
 f2 : Int
def z182 : S182 := ⟨(0 : Int), (0 : Int), (0 : Int)⟩
def k182 : Kd S182 := Kd.iso (Kd.pair (Kd.int .i64) (Kd.pair (Kd.int .i64) (Kd.int .i64))) (fun x : S182 => (x.f0, x.f1, x.f2))
theorem k182_heap : Kd.Heap k182 := Kd.heap_iso _ (Kd.heap_pair (Kd.heap_int .i64) (Kd.heap_pair (Kd.heap_int .i64) (Kd.heap_int .i64)))
theorem k182_open {w : World} {x : S182} {cs : List Value} (h : k182.K w x cs) : cs = [.int .i64 x.f0, .int .i64 x.f1, .int .i64 x.f2] := by
 obtain ⟨_, _, rfl, rfl, ⟨_, _, rfl, rfl, rfl⟩⟩ := h
 exact rfl
theorem k182_openM {w : World} {base : Nat} {ok : Nat → Prop} {x : S182} {cs : List Value} (h : k182.M w base ok x cs) : cs = [.int .i64 x.f0, .int .i64 x.f1, .int .i64 x.f2] := by
 obtain ⟨_, _, rfl, rfl, ⟨_, _, rfl, rfl, rfl⟩⟩ := h
 exact rfl
theorem k182_mk (w : World) (x : S182)  : k182.K w x [.int .i64 x.f0, .int .i64 x.f1, .int .i64 x.f2] := ⟨[.int .i64 x.f0], [.int .i64 x.f1, .int .i64 x.f2], rfl, rfl, ⟨[.int .i64 x.f1], [.int .i64 x.f2], rfl, rfl, rfl⟩⟩
theorem k182_mkM (w : World) (base : Nat) (ok : Nat → Prop) (x : S182)  : k182.M w base ok x [.int .i64 x.f0, .int .i64 x.f1, .int .i64 x.f2] := ⟨[.int .i64 x.f0], [.int .i64 x.f1, .int .i64 x.f2], rfl, rfl, ⟨[.int .i64 x.f1], [.int .i64 x.f2], rfl, rfl, rfl⟩⟩
theorem k182_mkF (W : World) (ok : Nat → Prop) (x : S182) : Kd.FK k182 W ok x [.int .i64 x.f0, .int .i64 x.f1, .int .i64 x.f2] := fun W2 _ => k182_mk W2 x
def rd_T182 (xs : List S182) (i : Int) : S182 := xs.getD i.toNat z182
theorem at_T182 {w : World} {A : Option Addr} {n : Nat} {xs : List S182} (h : Kd.C k182 w A n xs) (i : Int) (h0 : 0 ≤ i) (h1 : i < n) : ∃ ad , A = some ad ∧ w.cell? (ad.add (i.toNat * 3)) = some (.int .i64 (rd_T182 xs i).f0) ∧ w.cell? ⟨(ad.add (i.toNat * 3)).block, (ad.add (i.toNat * 3)).off + 1, none⟩ = some (.int .i64 (rd_T182 xs i).f1) ∧ w.cell? ⟨(ad.add (i.toNat * 3)).block, (ad.add (i.toNat * 3)).off + 2, none⟩ = some (.int .i64 (rd_T182 xs i).f2) := by
 obtain ⟨ad, c, e, _, hK, hc0⟩ := Kd.C_get h z182 i h0 h1
 have hc : ∀ j u, c[j]? = some u → w.cell? (ad.add (i.toNat * 3 + j)) = some u := hc0
 obtain rfl := k182_open hK
 exact ⟨ad, e, hc 0 _ rfl, by rw [← add_field _ _ 1 (by omega)]; exact hc 1 _ rfl, by rw [← add_field _ _ 2 (by omega)]; exact hc 2 _ rfl⟩

end Go.Proofs.Ytglckkkjfcomlaa.QFixpointProofs
