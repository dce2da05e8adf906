/-
  Small plain lemmas for the pure statements: wraps, reads in the middle of a list, rounds.
-/
import Derived.Test.YtpkdgdhfhgelbaaWMore
import Derived.Test.YtpkdgdhfhgelbaaWWords
namespace Go.Proofs.Ytpkdgdhfhgelbaa.Aid
open Go.RowKit Go.Proofs.YtpkdgdhfhgelbaaW.PrintWords Go.Proofs.YtpkdgdhfhgelbaaW.PrintLast Go.Proofs.YtpkdgdhfhgelbaaW.PrintMore

theorem wrap_id {n : Int} (h : -9223372036854775808 ≤ n) (h' : n ≤ 9223372036854775807) : wrap64 n = n := by unfold wrap64; omega
theorem wrap_eq {a b : Int} (h : (a - b) % 18446744073709551616 = 0) : wrap64 a = wrap64 b := by unfold wrap64; omega
theorem wrap_mod (a : Int) : (wrap64 a - a) % 18446744073709551616 = 0 := by unfold wrap64; omega
theorem wf_i64 {n : Int} (h : (Lit.int .i64 n).wf = true) : -9223372036854775808 ≤ n ∧ n ≤ 9223372036854775807 := by
  simpa [Lit.wf, IntKind.min, IntKind.max, IntKind.signed, IntKind.bits] using h
theorem getD_mid {α : Type} (pre : List α) (x : α) (t : List α) (d : α) : (pre ++ x :: t).getD ((pre.length : Int)).toNat d = x := by
  simp [List.getD_eq_getElem?_getD]
theorem rd_mid (pre : List Int) (x : Int) (t : List Int) : rd (pre ++ x :: t) (pre.length : Int) = x := getD_mid _ _ _ _
theorem Ev.same {α : Type} {g f : Nat → Option α} {r : α} (k : Ev f r) (h : ∀ k, g k = f k) : Ev g r := Ev.congr h k
theorem Ev.stepK {α : Type} {g f : Nat → Option α} {r : α} (k : Ev f r) (h : ∀ k, g (k + 1) = f k) : Ev g r := Ev.step h k
theorem Ev.some' {α : Type} {g : Nat → Option α} {r : α} (h : ∀ k, g (k + 1) = some r) : Ev g r := Ev.step h (Ev.now r)
theorem Ev.pos {α : Type} {c : Prop} [Decidable c] {f g : Nat → Option α} {r : α} (h : c) (e : Ev f r) : Ev (fun k => if c then f k else g k) r := Ev.same e (fun _ => if_pos h)
theorem Ev.neg {α : Type} {c : Prop} [Decidable c] {f g : Nat → Option α} {r : α} (h : ¬ c) (e : Ev g r) : Ev (fun k => if c then f k else g k) r := Ev.same e (fun _ => if_neg h)
end Go.Proofs.Ytpkdgdhfhgelbaa.Aid
