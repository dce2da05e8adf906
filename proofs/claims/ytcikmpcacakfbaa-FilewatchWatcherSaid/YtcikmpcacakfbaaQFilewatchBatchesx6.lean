-- Written by gen.py (this repo's wip/), which runs the kit's print.py with more arms. Lean checks it.
import Derived.Test.YtcikmpcacakfbaaQFilewatchBatchesx0
namespace Go.Proofs.Ytcikmpcacakfbaa.QFilewatchBatches
open Go.RowKit Go.Proofs.YtcikmpcacakfbaaW.PrintWords Go.Proofs.YtcikmpcacakfbaaW.PrintLast Go.Proofs.YtcikmpcacakfbaaW.PrintMore
attribute [local go_sem] max2_int min2_int max_two min_two max_three min_three max_four min_four   -- for this text's walks alone
set_option linter.unusedVariables false
set_option linter.unusedSimpArgs false

private theorem isEmpty_bne {α : Type} [BEq α] (l : List α) : (l != []) = !l.isEmpty := by cases l <;> rfl

section
open Go.Proofs.Ytcikmpcacakfbaa.Hand
/-! ### fwMerge50: function 50 -/
def fwMerge50.f (a0 : Int) : Option (Bool) := if a0 = 1 then (some true) else (if a0 = 2 then (some true) else (some (a0 == 3)))
set_option maxHeartbeats 8000000 in
set_option maxRecDepth 100000 in
theorem fwMerge50.calls (a0 : Int) (r : Bool) (w : World) (h : fwMerge50.f a0 = some r) :
    Calls Try.prog 50 #[.int .i64 a0] w fun e w' => e = .returned (.bool r) ∧ Drawn0 w w' := by
  have H : (if a0 = 1 then (some true) else (if a0 = 2 then (some true) else (some (a0 == 3)))) = some r := h
  clear h
  by_cases c2 : a0 = 1
  · rw [if_pos c2] at H
    have c2b0 : (a0 == 1) = true := beq_iff_eq.mpr c2
    have c2b1 : (a0 != 1) = false := bne_eq_false_iff_eq.mpr c2
    clear c2
    obtain rfl := Option.some.inj H
    go_enter Try.func50, Try.ntmps50
    go_wp2
    go_ret
    exact ⟨by first | rfl | (simp; done) | (simp [*]; done), by repeat (first | exact Drawn0.refl _ | apply Drawn0.step)⟩
  · rw [if_neg c2] at H
    have c2b0 : (a0 == 1) = false := beq_eq_false_iff_ne.mpr c2
    have c2b1 : (a0 != 1) = true := bne_iff_ne.mpr c2
    by_cases c3 : a0 = 2
    · rw [if_pos c3] at H
      have c3b0 : (a0 == 2) = true := beq_iff_eq.mpr c3
      have c3b1 : (a0 != 2) = false := bne_eq_false_iff_eq.mpr c3
      clear c3
      obtain rfl := Option.some.inj H
      go_enter Try.func50, Try.ntmps50
      go_wp2
      go_ret
      exact ⟨by first | rfl | (simp; done) | (simp [*]; done), by repeat (first | exact Drawn0.refl _ | apply Drawn0.step)⟩
    · rw [if_neg c3] at H
      have c3b0 : (a0 == 2) = false := beq_eq_false_iff_ne.mpr c3
      have c3b1 : (a0 != 2) = true := bne_iff_ne.mpr c3
      obtain rfl := Option.some.inj H
      go_enter Try.func50, Try.ntmps50
      go_wp2
      go_ret
      exact ⟨by first | rfl | (simp; done) | (simp [*]; done), by repeat (first | exact Drawn0.refl _ | apply Drawn0.step)⟩
def val3 (k : Int) : Bool := k == 1 || k == 2 || k == 3
def mergeR (a b : Int) : Int :=
  if val3 a then (if val3 b then (if a = 1 then (if b = 3 then 0 else 1) else if b = 3 then 3 else 2) else a) else if val3 b then b else 0
theorem merge1 (a : Int) : fwMerge50.f a = some (val3 a) := by
  unfold fwMerge50.f val3
  by_cases h1 : a = 1
  · rw [if_pos h1]; simp [h1]
  · rw [if_neg h1]
    by_cases h2 : a = 2
    · rw [if_pos h2]; simp [h2]
    · rw [if_neg h2]; simp [h1, h2]
theorem val3_is {a : Int} (h : val3 a = true) : a = 1 ∨ a = 2 ∨ a = 3 := by
  unfold val3 at h
  simp at h
  omega
section
variable {P : Program} {ops : Array Oper} {Q : Exit → Act → World → Prop}
/-- A call of a function that is a value, in a region that keeps its order. -/
theorem callV_ {rest : List Oper} {oi : Oper} {a : Act} {w : World} (N : Option Tmp) (hd : oi.dst = N) (hg : oi.guard = none) (f : FuncId) (args : Array Value) (hrun : (execOp a.eval oi).run P w = .ok (.enter f args) w)
    (h : Calls P f args w fun e w' => ∃ v, e = .returned v ∧ wpList P ops Q rest (a.put N v) w') : wpList P ops Q (oi :: rest) a w := by
  refine wpList_plain hg fun K hK => ?_
  unfold Oper.wp
  rw [hrun, Oper.upon_enter]
  refine h.mono fun e w'' hh => ?_
  obtain ⟨v, rfl, hk⟩ := hh
  subst hd
  exact hK _ _ hk
end
set_option maxRecDepth 100000 in
set_option maxHeartbeats 16000000 in
theorem refMerge_ff (a b : Int) (w : World) (h1 : val3 a = false) (h2 : val3 b = false) : Calls Try.prog 22 #[.int .i64 a, .int .i64 b] w fun e w' => e = .returned (.int .i64 0) ∧ Below w.heap.size w w' := by
  have M1 := Aside0.mk (show fwMerge50.f a = some false by rw [merge1, h1])
  have M2 := Aside0.mk (show fwMerge50.f b = some false by rw [merge1, h2])
  clear h1 h2
  go_enter Try.func22, Try.ntmps22
  go_wp2_with (first | ((with_reducible refine gate_dst (N := 9) rfl ?_); refine callV_ (some 9) rfl rfl 50 #[.int .i64 a] (by have hen := fun args w => enters_ Try.func50 (by kernel_rfl) rfl args w; simp [execOp, resolve, invoke, Deferred.ofValue, Act.eval, hen]) ?_; refine (fwMerge50.calls _ _ _ M1.out).mono ?_; rintro e w9 ⟨rfl, hd⟩; refine ⟨_, rfl, ?_⟩; have HB9 := Aside0.mk hd.below; clear hd) | ((with_reducible refine gate_dst (N := 13) rfl ?_); refine callV_ (some 13) rfl rfl 50 #[.int .i64 b] (by have hen := fun args w => enters_ Try.func50 (by kernel_rfl) rfl args w; simp [execOp, resolve, invoke, Deferred.ofValue, Act.eval, hen]) ?_; refine (fwMerge50.calls _ _ _ M2.out).mono ?_; rintro e w13 ⟨rfl, hd⟩; refine ⟨_, rfl, ?_⟩; have HB13 := Aside0.mk hd.below; clear hd))
  go_ret
  exact ⟨rfl, HB9.out.trans (HB13.out.mono HB9.out.size)⟩
set_option maxRecDepth 100000 in
set_option maxHeartbeats 16000000 in
theorem refMerge_ft (a b : Int) (w : World) (h1 : val3 a = false) (h2 : val3 b = true) : Calls Try.prog 22 #[.int .i64 a, .int .i64 b] w fun e w' => e = .returned (.int .i64 b) ∧ Below w.heap.size w w' := by
  have M1 := Aside0.mk (show fwMerge50.f a = some false by rw [merge1, h1])
  have M2 := Aside0.mk (show fwMerge50.f b = some true by rw [merge1, h2])
  clear h1 h2
  go_enter Try.func22, Try.ntmps22
  go_wp2_with (first | ((with_reducible refine gate_dst (N := 9) rfl ?_); refine callV_ (some 9) rfl rfl 50 #[.int .i64 a] (by have hen := fun args w => enters_ Try.func50 (by kernel_rfl) rfl args w; simp [execOp, resolve, invoke, Deferred.ofValue, Act.eval, hen]) ?_; refine (fwMerge50.calls _ _ _ M1.out).mono ?_; rintro e w9 ⟨rfl, hd⟩; refine ⟨_, rfl, ?_⟩; have HB9 := Aside0.mk hd.below; clear hd) | ((with_reducible refine gate_dst (N := 13) rfl ?_); refine callV_ (some 13) rfl rfl 50 #[.int .i64 b] (by have hen := fun args w => enters_ Try.func50 (by kernel_rfl) rfl args w; simp [execOp, resolve, invoke, Deferred.ofValue, Act.eval, hen]) ?_; refine (fwMerge50.calls _ _ _ M2.out).mono ?_; rintro e w13 ⟨rfl, hd⟩; refine ⟨_, rfl, ?_⟩; have HB13 := Aside0.mk hd.below; clear hd))
  go_ret
  exact ⟨rfl, HB9.out.trans (HB13.out.mono HB9.out.size)⟩
set_option maxRecDepth 100000 in
set_option maxHeartbeats 16000000 in
theorem refMerge_tf (a b : Int) (w : World) (h1 : val3 a = true) (h2 : val3 b = false) : Calls Try.prog 22 #[.int .i64 a, .int .i64 b] w fun e w' => e = .returned (.int .i64 a) ∧ Below w.heap.size w w' := by
  have M1 := Aside0.mk (show fwMerge50.f a = some true by rw [merge1, h1])
  have M2 := Aside0.mk (show fwMerge50.f b = some false by rw [merge1, h2])
  clear h1 h2
  go_enter Try.func22, Try.ntmps22
  go_wp2_with (first | ((with_reducible refine gate_dst (N := 9) rfl ?_); refine callV_ (some 9) rfl rfl 50 #[.int .i64 a] (by have hen := fun args w => enters_ Try.func50 (by kernel_rfl) rfl args w; simp [execOp, resolve, invoke, Deferred.ofValue, Act.eval, hen]) ?_; refine (fwMerge50.calls _ _ _ M1.out).mono ?_; rintro e w9 ⟨rfl, hd⟩; refine ⟨_, rfl, ?_⟩; have HB9 := Aside0.mk hd.below; clear hd) | ((with_reducible refine gate_dst (N := 17) rfl ?_); refine callV_ (some 17) rfl rfl 50 #[.int .i64 b] (by have hen := fun args w => enters_ Try.func50 (by kernel_rfl) rfl args w; simp [execOp, resolve, invoke, Deferred.ofValue, Act.eval, hen]) ?_; refine (fwMerge50.calls _ _ _ M2.out).mono ?_; rintro e w17 ⟨rfl, hd⟩; refine ⟨_, rfl, ?_⟩; have HB17 := Aside0.mk hd.below; clear hd))
  go_ret
  exact ⟨rfl, HB9.out.trans (HB17.out.mono HB9.out.size)⟩
set_option maxRecDepth 100000 in
set_option maxHeartbeats 16000000 in
theorem refMerge_11 (w : World) : Calls Try.prog 22 #[.int .i64 1, .int .i64 1] w fun e w' => e = .returned (.int .i64 1) ∧ Below w.heap.size w w' := by
  have M1 := Aside0.mk (show fwMerge50.f 1 = some true from merge1 1)
  have M2 := Aside0.mk (show fwMerge50.f 1 = some true from merge1 1)
  go_enter Try.func22, Try.ntmps22
  go_wp2_with (first | ((with_reducible refine gate_dst (N := 9) rfl ?_); refine callV_ (some 9) rfl rfl 50 #[.int .i64 1] (by have hen := fun args w => enters_ Try.func50 (by kernel_rfl) rfl args w; simp [execOp, resolve, invoke, Deferred.ofValue, Act.eval, hen]) ?_; refine (fwMerge50.calls _ _ _ M1.out).mono ?_; rintro e w9 ⟨rfl, hd⟩; refine ⟨_, rfl, ?_⟩; have HB9 := Aside0.mk hd.below; clear hd) | ((with_reducible refine gate_dst (N := 17) rfl ?_); refine callV_ (some 17) rfl rfl 50 #[.int .i64 1] (by have hen := fun args w => enters_ Try.func50 (by kernel_rfl) rfl args w; simp [execOp, resolve, invoke, Deferred.ofValue, Act.eval, hen]) ?_; refine (fwMerge50.calls _ _ _ M2.out).mono ?_; rintro e w17 ⟨rfl, hd⟩; refine ⟨_, rfl, ?_⟩; have HB17 := Aside0.mk hd.below; clear hd))
  go_ret
  exact ⟨rfl, below_alloc (HB9.out.trans (HB17.out.mono HB9.out.size)) _⟩
set_option maxRecDepth 100000 in
set_option maxHeartbeats 16000000 in
theorem refMerge_12 (w : World) : Calls Try.prog 22 #[.int .i64 1, .int .i64 2] w fun e w' => e = .returned (.int .i64 1) ∧ Below w.heap.size w w' := by
  have M1 := Aside0.mk (show fwMerge50.f 1 = some true from merge1 1)
  have M2 := Aside0.mk (show fwMerge50.f 2 = some true from merge1 2)
  go_enter Try.func22, Try.ntmps22
  go_wp2_with (first | ((with_reducible refine gate_dst (N := 9) rfl ?_); refine callV_ (some 9) rfl rfl 50 #[.int .i64 1] (by have hen := fun args w => enters_ Try.func50 (by kernel_rfl) rfl args w; simp [execOp, resolve, invoke, Deferred.ofValue, Act.eval, hen]) ?_; refine (fwMerge50.calls _ _ _ M1.out).mono ?_; rintro e w9 ⟨rfl, hd⟩; refine ⟨_, rfl, ?_⟩; have HB9 := Aside0.mk hd.below; clear hd) | ((with_reducible refine gate_dst (N := 17) rfl ?_); refine callV_ (some 17) rfl rfl 50 #[.int .i64 2] (by have hen := fun args w => enters_ Try.func50 (by kernel_rfl) rfl args w; simp [execOp, resolve, invoke, Deferred.ofValue, Act.eval, hen]) ?_; refine (fwMerge50.calls _ _ _ M2.out).mono ?_; rintro e w17 ⟨rfl, hd⟩; refine ⟨_, rfl, ?_⟩; have HB17 := Aside0.mk hd.below; clear hd))
  go_ret
  exact ⟨rfl, below_alloc (HB9.out.trans (HB17.out.mono HB9.out.size)) _⟩
set_option maxRecDepth 100000 in
set_option maxHeartbeats 16000000 in
theorem refMerge_13 (w : World) : Calls Try.prog 22 #[.int .i64 1, .int .i64 3] w fun e w' => e = .returned (.int .i64 0) ∧ Below w.heap.size w w' := by
  have M1 := Aside0.mk (show fwMerge50.f 1 = some true from merge1 1)
  have M2 := Aside0.mk (show fwMerge50.f 3 = some true from merge1 3)
  go_enter Try.func22, Try.ntmps22
  go_wp2_with (first | ((with_reducible refine gate_dst (N := 9) rfl ?_); refine callV_ (some 9) rfl rfl 50 #[.int .i64 1] (by have hen := fun args w => enters_ Try.func50 (by kernel_rfl) rfl args w; simp [execOp, resolve, invoke, Deferred.ofValue, Act.eval, hen]) ?_; refine (fwMerge50.calls _ _ _ M1.out).mono ?_; rintro e w9 ⟨rfl, hd⟩; refine ⟨_, rfl, ?_⟩; have HB9 := Aside0.mk hd.below; clear hd) | ((with_reducible refine gate_dst (N := 17) rfl ?_); refine callV_ (some 17) rfl rfl 50 #[.int .i64 3] (by have hen := fun args w => enters_ Try.func50 (by kernel_rfl) rfl args w; simp [execOp, resolve, invoke, Deferred.ofValue, Act.eval, hen]) ?_; refine (fwMerge50.calls _ _ _ M2.out).mono ?_; rintro e w17 ⟨rfl, hd⟩; refine ⟨_, rfl, ?_⟩; have HB17 := Aside0.mk hd.below; clear hd))
  go_ret
  exact ⟨rfl, below_alloc (HB9.out.trans (HB17.out.mono HB9.out.size)) _⟩
set_option maxRecDepth 100000 in
set_option maxHeartbeats 16000000 in
theorem refMerge_21 (w : World) : Calls Try.prog 22 #[.int .i64 2, .int .i64 1] w fun e w' => e = .returned (.int .i64 2) ∧ Below w.heap.size w w' := by
  have M1 := Aside0.mk (show fwMerge50.f 2 = some true from merge1 2)
  have M2 := Aside0.mk (show fwMerge50.f 1 = some true from merge1 1)
  go_enter Try.func22, Try.ntmps22
  go_wp2_with (first | ((with_reducible refine gate_dst (N := 9) rfl ?_); refine callV_ (some 9) rfl rfl 50 #[.int .i64 2] (by have hen := fun args w => enters_ Try.func50 (by kernel_rfl) rfl args w; simp [execOp, resolve, invoke, Deferred.ofValue, Act.eval, hen]) ?_; refine (fwMerge50.calls _ _ _ M1.out).mono ?_; rintro e w9 ⟨rfl, hd⟩; refine ⟨_, rfl, ?_⟩; have HB9 := Aside0.mk hd.below; clear hd) | ((with_reducible refine gate_dst (N := 17) rfl ?_); refine callV_ (some 17) rfl rfl 50 #[.int .i64 1] (by have hen := fun args w => enters_ Try.func50 (by kernel_rfl) rfl args w; simp [execOp, resolve, invoke, Deferred.ofValue, Act.eval, hen]) ?_; refine (fwMerge50.calls _ _ _ M2.out).mono ?_; rintro e w17 ⟨rfl, hd⟩; refine ⟨_, rfl, ?_⟩; have HB17 := Aside0.mk hd.below; clear hd))
  go_ret
  exact ⟨rfl, below_alloc (HB9.out.trans (HB17.out.mono HB9.out.size)) _⟩
set_option maxRecDepth 100000 in
set_option maxHeartbeats 16000000 in
theorem refMerge_22 (w : World) : Calls Try.prog 22 #[.int .i64 2, .int .i64 2] w fun e w' => e = .returned (.int .i64 2) ∧ Below w.heap.size w w' := by
  have M1 := Aside0.mk (show fwMerge50.f 2 = some true from merge1 2)
  have M2 := Aside0.mk (show fwMerge50.f 2 = some true from merge1 2)
  go_enter Try.func22, Try.ntmps22
  go_wp2_with (first | ((with_reducible refine gate_dst (N := 9) rfl ?_); refine callV_ (some 9) rfl rfl 50 #[.int .i64 2] (by have hen := fun args w => enters_ Try.func50 (by kernel_rfl) rfl args w; simp [execOp, resolve, invoke, Deferred.ofValue, Act.eval, hen]) ?_; refine (fwMerge50.calls _ _ _ M1.out).mono ?_; rintro e w9 ⟨rfl, hd⟩; refine ⟨_, rfl, ?_⟩; have HB9 := Aside0.mk hd.below; clear hd) | ((with_reducible refine gate_dst (N := 17) rfl ?_); refine callV_ (some 17) rfl rfl 50 #[.int .i64 2] (by have hen := fun args w => enters_ Try.func50 (by kernel_rfl) rfl args w; simp [execOp, resolve, invoke, Deferred.ofValue, Act.eval, hen]) ?_; refine (fwMerge50.calls _ _ _ M2.out).mono ?_; rintro e w17 ⟨rfl, hd⟩; refine ⟨_, rfl, ?_⟩; have HB17 := Aside0.mk hd.below; clear hd))
  go_ret
  exact ⟨rfl, below_alloc (HB9.out.trans (HB17.out.mono HB9.out.size)) _⟩
set_option maxRecDepth 100000 in
set_option maxHeartbeats 16000000 in
theorem refMerge_23 (w : World) : Calls Try.prog 22 #[.int .i64 2, .int .i64 3] w fun e w' => e = .returned (.int .i64 3) ∧ Below w.heap.size w w' := by
  have M1 := Aside0.mk (show fwMerge50.f 2 = some true from merge1 2)
  have M2 := Aside0.mk (show fwMerge50.f 3 = some true from merge1 3)
  go_enter Try.func22, Try.ntmps22
  go_wp2_with (first | ((with_reducible refine gate_dst (N := 9) rfl ?_); refine callV_ (some 9) rfl rfl 50 #[.int .i64 2] (by have hen := fun args w => enters_ Try.func50 (by kernel_rfl) rfl args w; simp [execOp, resolve, invoke, Deferred.ofValue, Act.eval, hen]) ?_; refine (fwMerge50.calls _ _ _ M1.out).mono ?_; rintro e w9 ⟨rfl, hd⟩; refine ⟨_, rfl, ?_⟩; have HB9 := Aside0.mk hd.below; clear hd) | ((with_reducible refine gate_dst (N := 17) rfl ?_); refine callV_ (some 17) rfl rfl 50 #[.int .i64 3] (by have hen := fun args w => enters_ Try.func50 (by kernel_rfl) rfl args w; simp [execOp, resolve, invoke, Deferred.ofValue, Act.eval, hen]) ?_; refine (fwMerge50.calls _ _ _ M2.out).mono ?_; rintro e w17 ⟨rfl, hd⟩; refine ⟨_, rfl, ?_⟩; have HB17 := Aside0.mk hd.below; clear hd))
  go_ret
  exact ⟨rfl, below_alloc (HB9.out.trans (HB17.out.mono HB9.out.size)) _⟩
set_option maxRecDepth 100000 in
set_option maxHeartbeats 16000000 in
theorem refMerge_31 (w : World) : Calls Try.prog 22 #[.int .i64 3, .int .i64 1] w fun e w' => e = .returned (.int .i64 2) ∧ Below w.heap.size w w' := by
  have M1 := Aside0.mk (show fwMerge50.f 3 = some true from merge1 3)
  have M2 := Aside0.mk (show fwMerge50.f 1 = some true from merge1 1)
  go_enter Try.func22, Try.ntmps22
  go_wp2_with (first | ((with_reducible refine gate_dst (N := 9) rfl ?_); refine callV_ (some 9) rfl rfl 50 #[.int .i64 3] (by have hen := fun args w => enters_ Try.func50 (by kernel_rfl) rfl args w; simp [execOp, resolve, invoke, Deferred.ofValue, Act.eval, hen]) ?_; refine (fwMerge50.calls _ _ _ M1.out).mono ?_; rintro e w9 ⟨rfl, hd⟩; refine ⟨_, rfl, ?_⟩; have HB9 := Aside0.mk hd.below; clear hd) | ((with_reducible refine gate_dst (N := 17) rfl ?_); refine callV_ (some 17) rfl rfl 50 #[.int .i64 1] (by have hen := fun args w => enters_ Try.func50 (by kernel_rfl) rfl args w; simp [execOp, resolve, invoke, Deferred.ofValue, Act.eval, hen]) ?_; refine (fwMerge50.calls _ _ _ M2.out).mono ?_; rintro e w17 ⟨rfl, hd⟩; refine ⟨_, rfl, ?_⟩; have HB17 := Aside0.mk hd.below; clear hd))
  go_ret
  exact ⟨rfl, below_alloc (HB9.out.trans (HB17.out.mono HB9.out.size)) _⟩
set_option maxRecDepth 100000 in
set_option maxHeartbeats 16000000 in
theorem refMerge_32 (w : World) : Calls Try.prog 22 #[.int .i64 3, .int .i64 2] w fun e w' => e = .returned (.int .i64 2) ∧ Below w.heap.size w w' := by
  have M1 := Aside0.mk (show fwMerge50.f 3 = some true from merge1 3)
  have M2 := Aside0.mk (show fwMerge50.f 2 = some true from merge1 2)
  go_enter Try.func22, Try.ntmps22
  go_wp2_with (first | ((with_reducible refine gate_dst (N := 9) rfl ?_); refine callV_ (some 9) rfl rfl 50 #[.int .i64 3] (by have hen := fun args w => enters_ Try.func50 (by kernel_rfl) rfl args w; simp [execOp, resolve, invoke, Deferred.ofValue, Act.eval, hen]) ?_; refine (fwMerge50.calls _ _ _ M1.out).mono ?_; rintro e w9 ⟨rfl, hd⟩; refine ⟨_, rfl, ?_⟩; have HB9 := Aside0.mk hd.below; clear hd) | ((with_reducible refine gate_dst (N := 17) rfl ?_); refine callV_ (some 17) rfl rfl 50 #[.int .i64 2] (by have hen := fun args w => enters_ Try.func50 (by kernel_rfl) rfl args w; simp [execOp, resolve, invoke, Deferred.ofValue, Act.eval, hen]) ?_; refine (fwMerge50.calls _ _ _ M2.out).mono ?_; rintro e w17 ⟨rfl, hd⟩; refine ⟨_, rfl, ?_⟩; have HB17 := Aside0.mk hd.below; clear hd))
  go_ret
  exact ⟨rfl, below_alloc (HB9.out.trans (HB17.out.mono HB9.out.size)) _⟩
set_option maxRecDepth 100000 in
set_option maxHeartbeats 16000000 in
theorem refMerge_33 (w : World) : Calls Try.prog 22 #[.int .i64 3, .int .i64 3] w fun e w' => e = .returned (.int .i64 3) ∧ Below w.heap.size w w' := by
  have M1 := Aside0.mk (show fwMerge50.f 3 = some true from merge1 3)
  have M2 := Aside0.mk (show fwMerge50.f 3 = some true from merge1 3)
  go_enter Try.func22, Try.ntmps22
  go_wp2_with (first | ((with_reducible refine gate_dst (N := 9) rfl ?_); refine callV_ (some 9) rfl rfl 50 #[.int .i64 3] (by have hen := fun args w => enters_ Try.func50 (by kernel_rfl) rfl args w; simp [execOp, resolve, invoke, Deferred.ofValue, Act.eval, hen]) ?_; refine (fwMerge50.calls _ _ _ M1.out).mono ?_; rintro e w9 ⟨rfl, hd⟩; refine ⟨_, rfl, ?_⟩; have HB9 := Aside0.mk hd.below; clear hd) | ((with_reducible refine gate_dst (N := 17) rfl ?_); refine callV_ (some 17) rfl rfl 50 #[.int .i64 3] (by have hen := fun args w => enters_ Try.func50 (by kernel_rfl) rfl args w; simp [execOp, resolve, invoke, Deferred.ofValue, Act.eval, hen]) ?_; refine (fwMerge50.calls _ _ _ M2.out).mono ?_; rintro e w17 ⟨rfl, hd⟩; refine ⟨_, rfl, ?_⟩; have HB17 := Aside0.mk hd.below; clear hd))
  go_ret
  exact ⟨rfl, below_alloc (HB9.out.trans (HB17.out.mono HB9.out.size)) _⟩
theorem refMerge_calls (a b : Int) (w : World) : Calls Try.prog 22 #[.int .i64 a, .int .i64 b] w fun e w' => e = .returned (.int .i64 (mergeR a b)) ∧ Below w.heap.size w w' := by
  cases h1 : val3 a with
  | false =>
    cases h2 : val3 b with
    | false => rw [show mergeR a b = 0 by unfold mergeR; simp [h1, h2]]; exact refMerge_ff a b w h1 h2
    | true => rw [show mergeR a b = b by unfold mergeR; simp [h1, h2]]; exact refMerge_ft a b w h1 h2
  | true =>
    cases h2 : val3 b with
    | false => rw [show mergeR a b = a by unfold mergeR; simp [h1, h2]]; exact refMerge_tf a b w h1 h2
    | true =>
      rcases val3_is h1 with rfl | rfl | rfl <;> rcases val3_is h2 with rfl | rfl | rfl
      · exact refMerge_11 w
      · exact refMerge_12 w
      · exact refMerge_13 w
      · exact refMerge_21 w
      · exact refMerge_22 w
      · exact refMerge_23 w
      · exact refMerge_31 w
      · exact refMerge_32 w
      · exact refMerge_33 w
end
def glossatorref3_Merge.f (a b : Int) : Option Int := some (mergeR a b)
theorem glossatorref3_Merge.calls (a b r : Int) (w : World) (h : glossatorref3_Merge.f a b = some r) :
    Calls Try.prog 22 #[.int .i64 a, .int .i64 b] w fun e w' => e = .returned (.int .i64 r) ∧ Below w.heap.size w w' := by
  obtain rfl := Option.some.inj h
  exact refMerge_calls a b w

def glossatorref3_SortStrings.f (l0 : List ByteArray) : Option (List ByteArray) := if l0.length < 1000000 then some (Go.Proofs.Ytcikmpcacakfbaa.Hand.sortS l0) else none
theorem glossatorref3_SortStrings.calls (A0 : Option Addr) (c0 : Nat) (l0 : List ByteArray) (r : List ByteArray) (w : World) (hr0 : Kd.C Kd.string w A0 l0.length l0) (hc0 : l0.length ≤ c0) (h : glossatorref3_SortStrings.f l0 = some r) :
    Calls Try.prog 38 #[.slice A0 l0.length c0] w fun e w' => ∃ v0_ : Value, e = .returned (v0_) ∧ Kd.R Kd.string 9 w' w.heap.size (fun _ => True) v0_ r ∧ Below w.heap.size w w' := by
  unfold glossatorref3_SortStrings.f at h
  split at h
  case isFalse => cases h
  next hl =>
  obtain rfl := Option.some.inj h
  exact Go.Proofs.Ytcikmpcacakfbaa.Hand.sortStr_calls A0 c0 l0 w hr0 hl

/-! ### glossatorref3_paths: function 48 -/
def glossatorref3_paths.l0 : Nat → List ByteArray → List (S58) → Int → Int → Option (List ByteArray)
  | 0, _, _, _, _ => none
  | k + 1, x3, x6, x7, x8 => if x8 < x7 then (if 0 ≤ x8 then (if x8 < (x6.length : Int) then (if x3.length < 8796093022208 then (glossatorref3_paths.l0 k (x3 ++ [(rd_T58 x6 x8).f1]) x6 x7 (wrap64 (x8 + 1))) else (none)) else (none)) else (none)) else ((glossatorref3_SortStrings.f x3).bind fun t160 => (some t160))
def glossatorref3_paths.f (k : Nat) (l0 : List (S58)) : Option (List ByteArray) := glossatorref3_paths.l0 k ([] : List ByteArray) l0 (l0.length : Int) 0
theorem glossatorref3_paths.mono_l : ∀ k, (∀ y0 y1 y2 y3, LeO (glossatorref3_paths.l0 k y0 y1 y2 y3) (glossatorref3_paths.l0 (k + 1) y0 y1 y2 y3))
  | 0 => fun _ _ _ _ r h => by simp [glossatorref3_paths.l0] at h
  | k + 1 => by
    have ih0 := glossatorref3_paths.mono_l k
    · intro y0 y1 y2 y3
      unfold glossatorref3_paths.l0
      repeat' first
      | (with_reducible exact ih0 _ _ _ _)
      | (with_reducible exact LeO.refl _)
      | (with_reducible exact LeO.none _)
      | (with_reducible refine LeO.ite ?_ ?_)
      | (with_reducible refine LeO.bind ?_ (fun _ => ?_))
      | exact ih0 _ _ _ _
      | exact LeO.none _
      | refine LeO.ite ?_ ?_
      | refine LeO.bind ?_ (fun _ => ?_)
theorem glossatorref3_paths.mono : ∀ a0 k, LeO (glossatorref3_paths.f k a0) (glossatorref3_paths.f (k + 1) a0) := by
  intro a0 k
  have ih0 := glossatorref3_paths.mono_l k
  unfold glossatorref3_paths.f
  repeat' first
      | (with_reducible exact ih0 _ _ _ _)
      | (with_reducible exact LeO.refl _)
      | (with_reducible exact LeO.none _)
      | (with_reducible refine LeO.ite ?_ ?_)
      | (with_reducible refine LeO.bind ?_ (fun _ => ?_))
      | exact ih0 _ _ _ _
      | exact LeO.none _
      | refine LeO.ite ?_ ?_
      | refine LeO.bind ?_ (fun _ => ?_)
set_option maxHeartbeats 8000000 in
set_option maxRecDepth 100000 in
theorem glossatorref3_paths.calls (k : Nat) (A0 : Option Addr) (c0 : Nat) (l0 : List (S58)) (r : List ByteArray) (w : World) (hr0 : Kd.C k58 w A0 l0.length l0) (hc0 : l0.length ≤ c0) (h : glossatorref3_paths.f k l0 = some r) :
    Calls Try.prog 48 #[.slice A0 l0.length c0] w fun e w' => ∃ v0_ : Value, e = .returned (v0_) ∧ Kd.R Kd.string 9 w' w.heap.size (fun _ => True) v0_ r ∧ Below w.heap.size w w' := by
  have hu58 := Try.underlying58
  have HR0 := Aside0.mk hr0
  have HC0 := Aside0.mk hc0
  clear hr0 hc0
  have HB := Aside0.mk (Below.refl w.heap.size w)
  have H : (glossatorref3_paths.l0 k ([] : List ByteArray) l0 (l0.length : Int) 0) = some r := h
  clear h
  have H' := Aside0.mk H
  clear H
  go_enter Try.func48, Try.ntmps48
  go_wp2
  go_loopg [3, 8] k (fun kq v3 v8 w' => ∃ (x3_1 : List ByteArray) (x8_1 : Int), v8 = .int .i64 x8_1 ∧ Aside0 (glossatorref3_paths.l0 kq x3_1 l0 (l0.length : Int) x8_1 = some r) ∧ Aside0 (kq ≤ k) ∧ Aside0 (Kd.R Kd.string 9 w' w.heap.size (fun _ => True) v3 x3_1) ∧ Aside0 (Below w.heap.size w w'))
  case atStart => exact ⟨(([] : List ByteArray)), (0), (by first | rfl | (simp; done) | (simp [*]; done) | (simp [isEmpty_bne]; done)), H', ⟨Nat.le_refl _⟩, ⟨by first | exact Kd.R_nil _ _ _ _ _ | exact Kd.N_nil _ _ _ _ _ | exact Kd.V_nil _ _ _ _ _ | exact Kd.Q_nil _ _ _ _ _ | exact Kd.S_nil _ _ _ _ _⟩, ⟨by repeat (first | (with_reducible first | exact HB.out | apply below_alloc | apply pw_below_drewN | apply below_drew1) | exact HB.out)⟩⟩
  case round =>
    clear H'
    obtain ⟨x3_1, x8_1, rfl, HA, HK1, HO_3, HB⟩ := hrel
    cases gk with
    | zero => exact absurd HA.out (by simp [glossatorref3_paths.l0])
    | succ k1 =>
      have H := HA.out
      clear HA
      simp only [glossatorref3_paths.l0] at H
      by_cases c2 : x8_1 < (l0.length : Int)
      · rw [if_pos c2] at H
        have c2b0 : decide (x8_1 < (l0.length : Int)) = true := decide_eq_true c2
        clear c2
        by_cases c3 : 0 ≤ x8_1
        · rw [if_pos c3] at H
          have c3b0 : decide (0 ≤ x8_1) = true := decide_eq_true c3
          clear c3
          by_cases c4 : x8_1 < (l0.length : Int)
          · rw [if_pos c4] at H
            have c4b0 : decide (x8_1 < (l0.length : Int)) = true := decide_eq_true c4
            clear c4
            by_cases c5 : x3_1.length < 8796093022208
            · rw [if_pos c5] at H
              have LMc5 := Aside0.mk c5
              clear c5
              obtain ⟨y157, hy157⟩ : ∃ y_ : List ByteArray, y_ = (x3_1 ++ [(rd_T58 l0 x8_1).f1]) := ⟨_, rfl⟩
              replace H : (glossatorref3_paths.l0 k1 y157 l0 (l0.length : Int) (wrap64 (x8_1 + 1))) = some r := by first | (rw [hy157]; with_reducible exact H) | (have H2_ := (Option.bind_some _ _).symm.trans H; rw [hy157]; with_reducible exact H2_) | (have H2_ := (Option.bind_some _ _).symm.trans H; with_reducible exact H2_) | with_reducible exact H | (rw [hy157]; exact H) | exact H
              have Ny157 := Aside0.mk hy157
              clear hy157
              have H' := Aside0.mk H
              clear H
              have p155 : 0 ≤ (x8_1 : Int) := of_decide_eq_true (by first | (with_reducible assumption) | assumption)
              have q155 : x8_1 < (l0.length : Int) := of_decide_eq_true (by first | (with_reducible assumption) | assumption)
              obtain ⟨ad155, e155, hx155_0, hx155_1, hx155_2⟩ := at_T58 HR0.out x8_1 p155 q155
              cases e155
              replace hx155_0 := (HB.out.cell (World.block_lt_of_cell? w _ hx155_0)).trans hx155_0
              replace hx155_1 := (HB.out.cell (World.block_lt_of_cell? w _ hx155_1)).trans hx155_1
              replace hx155_2 := (HB.out.cell (World.block_lt_of_cell? w _ hx155_2)).trans hx155_2
              replace p155 := eq_true p155
              replace q155 := eq_true q155
              go_wp2_with (first | ((with_reducible refine gate_dst (N := 5) rfl ?_); refine box_event ?hg (N := 5) ?hd (cs := #[.int .i64 0, .string (⟨#[]⟩ : ByteArray), .int .i64 0]) (t := 58) ?hr ?_; (case hd => rfl); (case hg => rfl); (case hr => first | (go_simp; done) | (go_simp; rfl)); intro gb156 hg w6 hbox hb; have n0_ := Aside0.mk (Kd.R_below (by (with_reducible repeat (first | apply Kd.R_alloc | apply Kd.R_drewN | apply Kd.R_drew)); exact HO_3.out) hb); have n1_ := Aside0.mk (below_step (by repeat (first | (with_reducible first | exact HB.out | apply below_alloc | apply pw_below_drewN | apply below_drew1) | exact HB.out)) hb); have n2_ := Aside0.mk (hbox); have n3_ := Aside0.mk ((by rw [hg]; exact (below_size (by repeat (first | (with_reducible first | exact HB.out | apply below_alloc | apply pw_below_drewN | apply below_drew1) | exact HB.out))) : w.heap.size ≤ gb156)); have n4_ := Aside0.mk ((by rw [hg]; exact (below_size (by repeat (first | (with_reducible first | exact HB.out | apply below_alloc | apply pw_below_drewN | apply below_drew1) | exact HB.out))) : w.heap.size ≤ gb156)); clear HO_3; clear HB; have HO_3 := n0_; have HB := n1_; have BK156 := n2_; have GW156 := n3_; have GE156 := n4_; clear n0_ n1_ n2_ n3_ n4_; clear hb hbox hg; have hcz7_0 : w6.cell? ⟨gb156, 0, none⟩ = some (.int .i64 0) := (blk_cell BK156.out 0).trans rfl; have hcz7_1 : w6.cell? ⟨gb156, 1, none⟩ = some (.string (⟨#[]⟩ : ByteArray)) := (blk_cell BK156.out 1).trans rfl; have hcz7_2 : w6.cell? ⟨gb156, 2, none⟩ = some (.int .i64 0) := (blk_cell BK156.out 2).trans rfl; have hfz7_0 := blk_frozen BK156.out 0; have hfz7_1 := blk_frozen BK156.out 1; have hfz7_2 := blk_frozen BK156.out 2) | ((with_reducible refine gate_builtin (b := .append) (xs := #[.tmp 12, .tmp 15]) rfl ?_); at_builtin; refine Kd.R_append Kd.string (w0 := w) w.heap.size rfl (.tmp 12) (.tmp 15) 39 9 (.string ⟨#[]⟩) 16 rfl Try.underlying39 info9 rfl (by decide) (by omega) u3 x3_1 ((rd_T58 l0 x8_1).f1) [.string ((rd_T58 l0 x8_1).f1)] (fun _ => True) (fun _ => False) rfl (by first | (go_simp; done) | (go_simp; rfl)) ?aP (fun _ hk => hk.elim) ?aF ?aO ?aB ?aS ?aL ?_; (case aP => exact rfl); (case aB => exact (by repeat (first | (with_reducible first | exact HB.out | apply below_alloc | apply pw_below_drewN | apply below_drew1 | refine below_set ?_ GE156.out) | exact HB.out))); (case aF => exact (fun _ _ => trivial)); (case aO => exact (by (with_reducible repeat (first | apply Kd.R_alloc | apply Kd.R_drewN | apply Kd.R_drew)); exact Kd.R_mono (Kd.R_far (p := ⟨gb156, 2, none⟩) (Kd.R_far (p := ⟨gb156, 1, none⟩) (Kd.R_far (p := ⟨gb156, 0, none⟩) (Kd.R_types HO_3.out BK156.out (by decide)) (fun _ hk => hk.2) (.int .i64 ((rd_T58 l0 x8_1).f0))) (fun _ hk => hk.2) (.string ((rd_T58 l0 x8_1).f1))) (fun _ hk => hk.2) (.int .i64 ((rd_T58 l0 x8_1).f2))) (fun _ hk => trivial))); (case aS => exact (below_size (by repeat (first | (with_reducible first | exact HB.out | apply below_alloc | apply pw_below_drewN | apply below_drew1 | refine below_set ?_ GE156.out) | exact HB.out)))); (case aL => have := LMc5.out; omega); intro v158 w8 ho hb hg hat; rw [← Ny157.out] at ho; have n0_ := Aside0.mk (blk_grown (g := gb156) (o := .cells #[.int .i64 ((rd_T58 l0 x8_1).f0), .string ((rd_T58 l0 x8_1).f1), .int .i64 ((rd_T58 l0 x8_1).f2)] 58 (0, 0)) (by (with_reducible repeat (first | refine blk_drewN ?_ _ | refine blk_drew ?_ | refine blk_alloc ?_ _)); refine blk_put (cs := #[.int .i64 ((rd_T58 l0 x8_1).f0), .string ((rd_T58 l0 x8_1).f1), .int .i64 0]) ?_ 2 _ rfl; (with_reducible repeat (first | refine blk_drewN ?_ _ | refine blk_drew ?_ | refine blk_alloc ?_ _)); refine blk_put (cs := #[.int .i64 ((rd_T58 l0 x8_1).f0), .string (⟨#[]⟩ : ByteArray), .int .i64 0]) ?_ 1 _ rfl; (with_reducible repeat (first | refine blk_drewN ?_ _ | refine blk_drew ?_ | refine blk_alloc ?_ _)); refine blk_put (cs := #[.int .i64 0, .string (⟨#[]⟩ : ByteArray), .int .i64 0]) ?_ 0 _ rfl; (with_reducible repeat (first | refine blk_drewN ?_ _ | refine blk_drew ?_ | refine blk_alloc ?_ _)); exact BK156.out) hg (Kd.R_ne HO_3.out BK156.out (by decide))); have n1_ := Aside0.mk (hb); have n2_ := Aside0.mk (ho); clear BK156; clear HB; clear HO_3; have BK156 := n0_; have HB := n1_; have HO159 := n2_; clear n0_ n1_ n2_; clear ho hb hg hat))
              go_roundg k1
              case measure => have := HK1.out; omega
              case rel => exact ⟨(y157), (wrap64 (x8_1 + 1)), (by first | rfl | (simp; done) | (simp [*]; done) | (simp [isEmpty_bne]; done)), H', ⟨by have := HK1.out; omega⟩, ⟨by (with_reducible repeat (first | apply Kd.R_alloc | apply Kd.R_drewN | apply Kd.R_drew)); exact HO159.out⟩, ⟨by repeat (first | (with_reducible first | exact HB.out | apply below_alloc | apply pw_below_drewN | apply below_drew1 | refine below_set ?_ GE156.out) | exact HB.out)⟩⟩
            · rw [if_neg c5] at H
              exact absurd H (by simp)
          · rw [if_neg c4] at H
            exact absurd H (by simp)
        · rw [if_neg c3] at H
          exact absurd H (by simp)
      · rw [if_neg c2] at H
        have c2b0 : decide (x8_1 < (l0.length : Int)) = false := decide_eq_false c2
        clear c2
        replace H := Option.bind_eq_some_iff.mp H
        obtain ⟨t160, A90, H⟩ := H
        replace H : (some t160) = some r := H
        have A9 := Aside0.mk A90
        clear A90
        obtain rfl := Option.some.inj H
        obtain ⟨Ao10, co10, eo10⟩ := Kd.R_slice HO_3.out
        subst eo10
        go_wp2_with (first | ((with_reducible refine gate_callee (f := 38) rfl ?_); refine goesL_ (some 19) rfl rfl Try.func38 (by kernel_rfl) rfl #[.slice Ao10 x3_1.length co10] rfl (by (try simp only [List.map_toArray, List.map_cons, List.map_nil]); first | done | rfl | (simp only [List.length_drop, List.length_take]; rfl)) ?_; (with_reducible refine (glossatorref3_SortStrings.calls _ _ x3_1 t160 _ ?side1 ?side2 A9.out).mono ?_); (case side1 => repeat (first | exact (Kd.R_reads' HO_3.out).2.2 | (with_reducible refine Kd.C_alloc ?_ _) | (with_reducible refine Kd.C_drewN ?_ _) | (with_reducible refine Kd.C_drew ?_))); (case side2 => exact (Kd.R_reads' HO_3.out).2.1); rintro e w11 ⟨v161, rfl, ho0, hb⟩; refine ⟨_, rfl, ?_⟩; have n0_ := Aside0.mk (Kd.R_elder' (by (with_reducible repeat (first | apply Kd.R_alloc | apply Kd.R_drewN | apply Kd.R_drew)); exact HO_3.out) (Kd.R_base ho0) hb); have n1_ := Aside0.mk (Kd.R_lower (Kd.R_new' ho0 (Kd.R_lt (by (with_reducible repeat (first | apply Kd.R_alloc | apply Kd.R_drewN | apply Kd.R_drew)); exact HO_3.out))) (below_size (by repeat (first | (with_reducible first | exact HB.out | apply below_alloc | apply pw_below_drewN | apply below_drew1) | exact HB.out)))); have n2_ := Aside0.mk (below_step (by repeat (first | (with_reducible first | exact HB.out | apply below_alloc | apply pw_below_drewN | apply below_drew1) | exact HB.out)) hb); clear HO_3; clear HB; have HO_3 := n0_; have HO162 := n1_; have HB := n2_; clear n0_ n1_ n2_; (try clear hb); (try clear hb2); (try clear hk); (try clear hi); (try clear ho0)))
        go_ret
        exact ⟨_, by first | rfl | (simp [errW_none, errW_some] <;> rfl) | (simp [*, errW_none, errW_some] <;> rfl), by (with_reducible repeat (first | apply Kd.R_alloc | apply Kd.R_drewN | apply Kd.R_drew)); exact Kd.R_mono HO162.out (fun _ hk => trivial), by repeat (first | (with_reducible first | exact HB.out | apply below_alloc | apply pw_below_drewN | apply below_drew1) | exact HB.out)⟩

end Go.Proofs.Ytcikmpcacakfbaa.QFilewatchBatches
