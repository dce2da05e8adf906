/-
  InputsScript: the fixed example; the law's own list of inputs.
-/
import Derived.Test.YtogpjenmfgpfiaaHandIn4
namespace Go.Proofs.Ytogpjenmfgpfiaa.QInputsScript
open Go.RowKit Go.Proofs.YtogpjenmfgpfiaaW.PrintWords Go.Proofs.YtogpjenmfgpfiaaW.PrintLast Go.Proofs.YtogpjenmfgpfiaaW.PrintMore Go.Proofs.Ytogpjenmfgpfiaa.Hand Go.Proofs.Ytogpjenmfgpfiaa.Aid
attribute [local go_sem] max2_int min2_int max_two min_two max_three min_three max_four min_four
set_option linter.unusedVariables false
set_option linter.unusedSimpArgs false
def exSt : St := ⟨1, 1, 1, 0, [(⟨0, 3, 0⟩, ⟨[], ⟨#[97]⟩, 1, 1⟩)]⟩
theorem ex1 : setP ⟨0, 0, 0, 0, []⟩ ⟨0, 3, 0⟩ [] (⟨#[97]⟩ : ByteArray) 1 = (true, 0, exSt) := by simp [setP, getP, mget, zIn, bump, mx, mset, exSt]
theorem ex2 : setP exSt ⟨0, 3, 0⟩ [] (⟨#[97]⟩ : ByteArray) 1 = (false, 0, exSt) := by simp [setP, getP, mget, exSt, valEq]
set_option maxRecDepth 100000 in
set_option maxHeartbeats 4000000 in
theorem example_calls (w : World) : Calls Try.prog 9 #[] w fun e w' => e = .returned (.bool true) ∧ Below w.heap.size w w' := by
  go_enter Try.func9, Try.ntmps9
  go_upto_region 2 with (go_at_call 10; refine (new_calls _).mono ?_; rintro e w1 ⟨sb, mb, rfl, hI1, hb1, hs1, hm1⟩; have HI1 := Aside0.mk hI1; have HB1 := Aside0.mk hb1; have HS1 := Aside0.mk hs1; have HM1 := Aside0.mk hm1; clear hI1 hb1 hs1 hm1)
  go_upto_region 5 with (go_at_call 11; refine (set_calls HI1.out ⟨0, 3, 0⟩ none 0 [] (⟨#[97]⟩ : ByteArray) 1 (fun _ _ => Kd.C_nil _ _) (by simp) (by simp) (by decide) (by decide)).mono ?_; rintro e w2 ⟨rfl, hI2, hc2⟩; rw [ex1] at hI2 ⊢; have HI2 := Aside0.mk hI2; have HC2 := Aside0.mk hc2; clear hI2 hc2)
  go_upto_region 6 with (go_at_call 11; refine (set_calls HI2.out ⟨0, 3, 0⟩ none 0 [] (⟨#[97]⟩ : ByteArray) 1 (fun _ _ => Kd.C_nil _ _) (by simp) (by simp) (by decide) (by decide)).mono ?_; rintro e w3 ⟨rfl, hI3, hc3⟩; rw [ex2] at hI3 ⊢; have HI3 := Aside0.mk hI3; have HC3 := Aside0.mk hc3; clear hI3 hc3)
  have l1 : lastP exSt 1 = 1 := by decide
  have l2 : lastP exSt 2 = 0 := by decide
  have lr : exSt.rev = 1 := rfl
  go_wp2_with (first | (go_at_call 13; refine (revision_calls HI3.out).mono ?_; rintro e w4 ⟨rfl, rfl⟩) | (go_at_call 16; refine (last_calls HI3.out _).mono ?_; rintro e w4 ⟨rfl, rfl⟩))
  go_ret
  have hb2 := HC2.out.trans HC3.out (fun _ _ e => e)
  have hs := HS1.out
  have hm := HM1.out
  exact ⟨rfl, HB1.out.trans (hb2.to_below (fun k _ e => by omega) HB1.out.size)⟩
end Go.Proofs.Ytogpjenmfgpfiaa.QInputsScript
