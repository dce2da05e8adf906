/-
  filewatch.Watcher and the reference's: states, complete and due (functions 54, 55), NewWatcher (28).
-/
import Derived.Test.YtcikmpcacakfbaaQFilewatchBatchesx7
import Derived.Test.YtcikmpcacakfbaaQFilewatchBatchesx3
namespace Go.Proofs.Ytcikmpcacakfbaa.QFilewatchBatches
open Go.RowKit Go.Proofs.YtcikmpcacakfbaaW.PrintWords Go.Proofs.YtcikmpcacakfbaaW.PrintLast Go.Proofs.YtcikmpcacakfbaaW.PrintMore Go.Proofs.Ytcikmpcacakfbaa.Hand
set_option linter.unusedVariables false
set_option linter.unusedSimpArgs false
/-- A watcher: its delay, the time, the events since the last batch. -/
structure WS where
  delay : Int
  now : Int
  es : List S58
/-- Block g is a watcher of type t; v is its row of events. -/
def WI (t g : Nat) (v : Value) (s : WS) (W : World) : Prop :=
  W.heap[g]? = some (.cells #[.int .i64 s.delay, .int .i64 s.now, v] t (0, 0)) ∧ Kd.R k58 58 W 0 (fun k => some k = v.ownBlock ∧ k ≠ g) v s.es
theorem WI.lt {t g : Nat} {v : Value} {s : WS} {W : World} (h : WI t g v s W) : g < W.heap.size := lt_of_blk h.1
theorem WI.own_lt {t g : Nat} {v : Value} {s : WS} {W : World} (h : WI t g v s W) {k : Nat} (hk : v.ownBlock = some k) : k < W.heap.size := ((Kd.R_bound h.2).1 k hk).2.2.1
theorem WI.move {t g : Nat} {v : Value} {s : WS} {W W1 : World} {S : Nat → Prop} (h : WI t g v s W) (hc : Chg S W W1) (hg : ¬ S g) (hv : ∀ k, v.ownBlock = some k → ¬ S k) : WI t g v s W1 :=
  ⟨hc.at h.1 hg, Kd.R_step h.2 (fun k hk hlt => hc.block k hlt (hv k hk.1.symm))⟩
theorem WI.below {t g : Nat} {v : Value} {s : WS} {W W1 : World} (h : WI t g v s W) (hb : Below W.heap.size W W1) : WI t g v s W1 :=
  h.move (S := fun _ => False) (Chg.of_new hb) (fun h => h) (fun _ _ h => h)
def compB (s : WS) (now : Int) : Bool := if s.es.length = 0 then false else decide (s.delay ≤ wrap64 (now - (rd_T58 s.es ((s.es.length : Int) - 1)).f0))
def dueB (s : WS) (now : Int) : Bool := if s.es.length = 0 then false else decide (wrap64 ((rd_T58 s.es ((s.es.length : Int) - 1)).f0 + s.delay) ≤ now)
theorem last_cell {W : World} {A : Option Addr} {es : List S58} (h : Kd.C k58 W A es.length es) (hz : 0 < es.length) : ∃ ad, A = some ad ∧ W.cell? (ad.add ((es.length - 1) * 3)) = some (.int .i64 (rd_T58 es ((es.length : Int) - 1)).f0) := by
  obtain ⟨ad, e, x0, _, _⟩ := at_T58 h ((es.length : Int) - 1) (by omega) (by omega)
  rw [show (((es.length : Int) - 1)).toNat = es.length - 1 by omega] at x0
  exact ⟨ad, e, x0⟩
set_option maxRecDepth 100000 in
set_option maxHeartbeats 16000000 in
theorem complete_calls (g : Nat) (v : Value) (s : WS) (now : Int) (w : World) (hI : WI 90 g v s w) (hl : s.es.length < 100000) :
    Calls Try.prog 54 #[.pointer (some ⟨g, 0, none⟩), .int .i64 now] w fun e w' => e = .returned (.bool (compB s now)) ∧ Below w.heap.size w w' := by
  obtain ⟨A, c, rfl⟩ := Kd.R_slice hI.2
  have x0 : w.cell? ⟨g, 0, none⟩ = some (.int .i64 s.delay) := (cells_of_blk hI.1 0).trans rfl
  have x2 : w.cell? ⟨g, 2, none⟩ = some (.slice A s.es.length c) := (cells_of_blk hI.1 2).trans rfl
  have hC := (Kd.R_reads' hI.2).2.2
  obtain ⟨n, hn⟩ : ∃ n, s.es.length = n := ⟨_, rfl⟩
  by_cases hz : s.es.length = 0
  · have HR := Aside0.mk (show compB s now = false by unfold compB; rw [if_pos hz])
    have b1 : decide ((s.es.length : Int) > 0) = false := decide_eq_false (by omega)
    have b2 : decide (0 < (s.es.length : Int)) = false := decide_eq_false (by omega)
    have b3 : decide (0 < s.es.length) = false := decide_eq_false (by omega)
    clear hz hn hC hl hI
    go_enter Try.func54, Try.ntmps54
    go_wp2
    go_quiet (fail)
    go_wp2
    go_ret
    exact ⟨by rw [HR.out]; rfl, pw_below_drewN (Below.refl _ _) _⟩
  · have b1 : decide ((s.es.length : Int) > 0) = true := decide_eq_true (by omega)
    have b2 : decide (0 < (s.es.length : Int)) = true := decide_eq_true (by omega)
    have b3 : decide (0 < s.es.length) = true := decide_eq_true (by omega)
    obtain ⟨ad, rfl, y0⟩ := last_cell hC (by omega)
    obtain ⟨t, ht⟩ : ∃ t, (rd_T58 s.es ((s.es.length : Int) - 1)).f0 = t := ⟨_, rfl⟩
    rw [ht] at y0
    obtain ⟨bb, hbb⟩ : ∃ bb, decide (s.delay ≤ wrap64 (now - t)) = bb := ⟨_, rfl⟩
    have HR := Aside0.mk (show compB s now = bb by unfold compB; rw [if_neg hz, ht, hbb])
    have r0 := eq_true (show (0 : Int) ≤ (s.es.length : Int) - 1 by omega)
    have r4 := eq_true (show (1 : Int) ≤ (s.es.length : Int) by omega)
    have r5 := eq_true (show (s.es.length : Int) - 1 < (s.es.length : Int) by omega)
    have r6 : IntKind.i64.wrap ((s.es.length : Int) - 1) = (s.es.length : Int) - 1 := by rw [i64_w]; unfold wrap64; omega
    clear hz hn hC hl hI ht
    go_enter Try.func54, Try.ntmps54
    go_wp2
    go_quiet (fail)
    go_wp2
    go_ret
    exact ⟨by rw [HR.out]; rfl, pw_below_drewN (Below.refl _ _) _⟩
set_option maxRecDepth 100000 in
set_option maxHeartbeats 16000000 in
theorem due_calls (g : Nat) (v : Value) (s : WS) (now : Int) (w : World) (hI : WI 56 g v s w) (hl : s.es.length < 100000) :
    Calls Try.prog 55 #[.pointer (some ⟨g, 0, none⟩), .int .i64 now] w fun e w' => e = .returned (.bool (dueB s now)) ∧ Below w.heap.size w w' := by
  obtain ⟨A, c, rfl⟩ := Kd.R_slice hI.2
  have x0 : w.cell? ⟨g, 0, none⟩ = some (.int .i64 s.delay) := (cells_of_blk hI.1 0).trans rfl
  have x2 : w.cell? ⟨g, 2, none⟩ = some (.slice A s.es.length c) := (cells_of_blk hI.1 2).trans rfl
  have hC := (Kd.R_reads' hI.2).2.2
  by_cases hz : s.es.length = 0
  · have HR := Aside0.mk (show dueB s now = false by unfold dueB; rw [if_pos hz])
    have b1 : decide ((s.es.length : Int) > 0) = false := decide_eq_false (by omega)
    have b2 : decide (0 < (s.es.length : Int)) = false := decide_eq_false (by omega)
    have b3 : decide (0 < s.es.length) = false := decide_eq_false (by omega)
    clear hz hC hl hI
    go_enter Try.func55, Try.ntmps55
    go_wp2
    go_quiet (fail)
    go_wp2
    go_ret
    exact ⟨by rw [HR.out]; rfl, pw_below_drewN (Below.refl _ _) _⟩
  · have b1 : decide ((s.es.length : Int) > 0) = true := decide_eq_true (by omega)
    have b2 : decide (0 < (s.es.length : Int)) = true := decide_eq_true (by omega)
    have b3 : decide (0 < s.es.length) = true := decide_eq_true (by omega)
    obtain ⟨ad, rfl, y0⟩ := last_cell hC (by omega)
    obtain ⟨t, ht⟩ : ∃ t, (rd_T58 s.es ((s.es.length : Int) - 1)).f0 = t := ⟨_, rfl⟩
    rw [ht] at y0
    obtain ⟨bb, hbb⟩ : ∃ bb, decide (wrap64 (t + s.delay) ≤ now) = bb := ⟨_, rfl⟩
    have HR := Aside0.mk (show dueB s now = bb by unfold dueB; rw [if_neg hz, ht, hbb])
    have r0 := eq_true (show (0 : Int) ≤ (s.es.length : Int) - 1 by omega)
    have r4 := eq_true (show (1 : Int) ≤ (s.es.length : Int) by omega)
    have r5 := eq_true (show (s.es.length : Int) - 1 < (s.es.length : Int) by omega)
    have r6 : IntKind.i64.wrap ((s.es.length : Int) - 1) = (s.es.length : Int) - 1 := by rw [i64_w]; unfold wrap64; omega
    clear hz hC hl hI ht
    go_enter Try.func55, Try.ntmps55
    go_wp2
    go_quiet (fail)
    go_wp2
    go_ret
    exact ⟨by rw [HR.out]; rfl, pw_below_drewN (Below.refl _ _) _⟩
/-- NewWatcher: an error, or a new watcher. -/
def NewPost (d : Int) (w : World) (e : Ending) (w' : World) : Prop :=
  if d < 0 ∨ d > 1000000 then e = .returned (.tuple #[.pointer none, .int .i64 1]) ∧ w' = w
  else e = .returned (.tuple #[.pointer (some ⟨w.heap.size, 0, none⟩), .int .i64 0]) ∧ w' = w.alloc (.cells #[.int .i64 d, .int .i64 0, .slice none 0 0] 90)
set_option maxRecDepth 100000 in
set_option maxHeartbeats 16000000 in
theorem new_calls (d : Int) (w : World) : Calls Try.prog 28 #[.int .i64 d] w (NewPost d w) := by
  by_cases c1 : d < 0
  · have HP := Aside0.mk (show ∀ e w', NewPost d w e w' = (e = .returned (.tuple #[.pointer none, .int .i64 1]) ∧ w' = w) from fun e w' => by unfold NewPost; rw [if_pos (.inl c1)])
    have b1 := decide_eq_true c1
    clear c1
    go_enter Try.func28, Try.ntmps28
    go_wp2
    go_ret2
    rw [HP.out]
    exact ⟨rfl, rfl⟩
  · have b1 := decide_eq_false c1
    by_cases c2 : d > 1000000
    · have HP := Aside0.mk (show ∀ e w', NewPost d w e w' = (e = .returned (.tuple #[.pointer none, .int .i64 1]) ∧ w' = w) from fun e w' => by unfold NewPost; rw [if_pos (.inr c2)])
      have b2 := decide_eq_true c2
      clear c1 c2
      go_enter Try.func28, Try.ntmps28
      go_wp2
      go_ret2
      rw [HP.out]
      exact ⟨rfl, rfl⟩
    · have HP := Aside0.mk (show ∀ e w', NewPost d w e w' = (e = .returned (.tuple #[.pointer (some ⟨w.heap.size, 0, none⟩), .int .i64 0]) ∧ w' = w.alloc (.cells #[.int .i64 d, .int .i64 0, .slice none 0 0] 90)) from fun e w' => by unfold NewPost; rw [if_neg (fun h => h.elim c1 c2)])
      have b2 := decide_eq_false c2
      clear c1 c2
      go_enter Try.func28, Try.ntmps28
      go_wp2
      go_ret2
      rw [HP.out]
      exact ⟨rfl, rfl⟩
end Go.Proofs.Ytcikmpcacakfbaa.QFilewatchBatches
