/-
  A region that draws its order, within a round of a range over a function: walked as everywhere.
-/
import Derived.OwnWalkIn
import Derived.RangeFuncCalls
import Derived.OrdersIn
import Derived.Orders
import Derived.RangeFuncNested
namespace Go.Proofs.Ytpkdgdhfhgelbaa.Hand
theorem round_op {l n : Nat} {P : Program} {o : Oper} (hp : ∀ c, o.op ≠ .defer c) {a : Act} {w : World} {next : Act → World → Prop} {Q : Exit → Act → World → Prop} (h : Oper.wp P o a w next Q) :
    Oper.wpIn (Fence.wide.inRound l) n P o a w next Q := by
  refine ⟨fun _ _ => trivial, ?_⟩
  rw [Oper.semAt_plain _ _ _ hp]
  unfold Oper.wp at h
  generalize (execOp a.eval o).run P w = r at *
  cases r with
  | ok x w' =>
    cases x with
    | value v => exact h
    | skip => exact h
    | defer d => exact h
    | enter f args => exact ⟨fun hd => (by cases hd), CallsIn.inRound l (callsIn_wide.2 h)⟩
    | row r args =>
      refine ⟨fun hd => (by cases hd), fun c cs hr => ?_⟩
      obtain ⟨v, w2, h1, h2⟩ := h c cs
      exact ⟨v, w2, h1, (stepsIn_wide.2 h2 : StepsIn (Machine.fenced P Fence.wide) P _ _)⟩
    | round _ _ _ _ _ => exact h.elim
    | _ => exact h.elim
  | halt x w' => cases x <;> first | exact h | exact h.elim
theorem round_wpOp {l n : Nat} {P : Program} {ops : Array Oper} (hp : ∀ (j : Nat) o, ops[j]? = some o → ∀ c, o.op ≠ .defer c) {Q : Exit → Act → World → Prop} (hQ : ¬ LetsOut Q) {i : Nat} {K : Act → World → Prop} {a : Act} {w : World} (h : wpOp P ops Q i K a w) :
    wpOpIn (Fence.wide.inRound l) n P ops Q i K a w := by
  unfold wpOpIn
  unfold wpOp at h
  cases ho : ops[i]? with
  | none => rw [ho] at h; exact h
  | some o =>
    rw [ho] at h
    simp only at h ⊢
    split
    · rename_i hw; rw [if_pos hw] at h; exact round_op (hp i o ho) (h.resolve_right (fun e => hQ e.2))
    · rename_i hw; rw [if_neg hw] at h; exact ⟨fun _ _ => trivial, h⟩
theorem round_any {l n : Nat} {P : Program} {md : Region.Mode} {ops : Array Oper} (hp : ∀ (j : Nat) o, ops[j]? = some o → ∀ c, o.op ≠ .defer c) {Q : Exit → Act → World → Prop} (hQ : ¬ LetsOut Q) : ∀ (fuel : Nat) (listed : Array Bool) (a : Act) (w : World), wpAny P md ops Q fuel listed a w → wpAnyIn (Fence.wide.inRound l) n P md ops Q fuel listed a w
  | 0, _, _, _, h => h
  | fuel + 1, _, _, _, h => ⟨h.1, fun i hi => wpOpIn_mono (fun a' w' h' => round_any hp hQ fuel _ a' w' h') (round_wpOp hp hQ (h.2 i hi))⟩
theorem region_round {l n id : Nat} {P : Program} {ops : Array Oper} (hm : P.follows .mixedOrders = true) (hp : ∀ (j : Nat) o, ops[j]? = some o → ∀ c, o.op ≠ .defer c) {Q : Exit → Act → World → Prop} (hQ : ¬ LetsOut Q) {a : Act} {w : World}
    (h : wpAny P .any ops Q ops.size (Array.replicate ops.size false) a w.drew) : (Code.region id ops true).wpIn (Fence.wide.inRound l) n P Q a w :=
  wpIn_region_any hm (round_any hp hQ _ _ _ _ h)
end Go.Proofs.Ytpkdgdhfhgelbaa.Hand
