/-
  glossatorref3.SortStrings (function 38 of seat r4; []string is type 39, string 9): sorted, without doubles.
-/
import Derived.Test.YtcikmpcacakfbaaHandAppFull
import Derived.Test.YtcikmpcacakfbaaHandChg
import Derived.Test.YtcikmpcacakfbaaWLast
import Derived.Test.YtcikmpcacakfbaaProg
import Derived.WalkKit
import Derived.Outline
import Derived.KernelRfl
import Derived.Deep.DeepCutAuto
import Derived.Deep.CutBlock
import Derived.Deep.QuietTactic
import Derived.BigQuiet
import Derived.Lib.SliceRun
import Derived.Lib.SlicesS
namespace Go.Proofs.Ytcikmpcacakfbaa.Hand
open Go.RowKit Go.Proofs.YtcikmpcacakfbaaW.PrintWords Go.Proofs.YtcikmpcacakfbaaW.PrintLast Go.Proofs.YtcikmpcacakfbaaW.PrintMore
set_option linter.unusedVariables false
set_option linter.unusedSimpArgs false
theorem sinfo9 : (Try.prog.info? 9).map (fun i => (i.zero, i.size, i.bytes)) = some (some (.string ⟨#[]⟩), 1, 16) := by kernel_rfl
/-- Where the own row begins: nowhere, or at the head of its block. -/
theorem own_head {α : Type} {d : Kd α} {e base : Nat} {ok : Nat → Prop} {W : World} {A : Option Addr} {n c : Nat} {xs : List α} (h : d.R e W base ok (.slice A n c) xs) : (A = none ∧ n = 0 ∧ c = 0 ∧ xs = []) ∨ ∃ g, A = some ⟨g, 0, none⟩ ∧ n ≤ c ∧ base ≤ g ∧ g < W.heap.size := by
  obtain ⟨_, inner, ⟨h1, h2⟩, _⟩ := h
  rcases h2 with ⟨h2, h3⟩ | ⟨g, cap, cur, h2, hb, hg, hc, _⟩
  · injection h2 with a b c'
    subst a; subst b; subst c'
    exact .inl ⟨rfl, rfl, rfl, List.eq_nil_of_length_eq_zero h3⟩
  · injection h2 with a b c'
    subst a; subst b; subst c'
    exact .inr ⟨g, rfl, hc, hb, (Array.getElem?_eq_some_iff.1 hg).1⟩
/-- The order of strings. -/
def ltS (a b : ByteArray) : Bool := Op.bytesLess a.toList b.toList
/-- A string comes into its place. -/
def insS (res : List ByteArray) (x : ByteArray) : List ByteArray := if res[(res.takeWhile (fun y => ltS y x)).length]? ≠ some x then res.takeWhile (fun y => ltS y x) ++ x :: res.dropWhile (fun y => ltS y x) else res
def sortS (l : List ByteArray) : List ByteArray := l.foldl insS []
theorem tw_len {α : Type} (p : α → Bool) : ∀ (l : List α) (j : Nat), j ≤ l.length → (∀ m, m < j → ∀ y, l[m]? = some y → p y = true) → (∀ y, l[j]? = some y → p y = false) → l.takeWhile p = l.take j ∧ l.dropWhile p = l.drop j
  | [], j, hj, _, _ => by
    obtain rfl : j = 0 := by simpa using hj
    exact ⟨rfl, rfl⟩
  | y :: l, 0, _, _, h => by
    have := h y rfl
    simp [List.takeWhile_cons, List.dropWhile_cons, this]
  | y :: l, j + 1, hj, h1, h2 => by
    have h0 := h1 0 (by omega) y rfl
    have ih := tw_len p l j (by simpa using hj) (fun m hm z hz => h1 (m + 1) (by omega) z (by simpa using hz)) (fun z hz => h2 z (by simpa using hz))
    simp [List.takeWhile_cons, List.dropWhile_cons, h0, ih.1, ih.2]
theorem ins_eq {res : List ByteArray} {x : ByteArray} {j : Nat} (hj : j ≤ res.length) (h1 : ∀ m, m < j → ∀ y, res[m]? = some y → ltS y x = true) (h2 : ∀ y, res[j]? = some y → ltS y x = false) :
    insS res x = if res[j]? ≠ some x then res.take j ++ x :: res.drop j else res := by
  obtain ⟨e1, e2⟩ := tw_len (fun y => ltS y x) res j hj h1 h2
  unfold insS
  rw [e1, e2, List.length_take, Nat.min_eq_left hj]
theorem insS_len (res : List ByteArray) (x : ByteArray) : (insS res x).length ≤ res.length + 1 := by
  unfold insS
  split
  · have h : (res.takeWhile (fun y => ltS y x) ++ res.dropWhile (fun y => ltS y x)).length = res.length := by rw [List.takeWhile_append_dropWhile]
    rw [List.length_append] at h
    rw [List.length_append, List.length_cons]
    omega
  · omega
theorem sortS_snoc (l : List ByteArray) (x : ByteArray) : sortS (l ++ [x]) = insS (sortS l) x := by unfold sortS; rw [List.foldl_append]; rfl
theorem grown_below {W W' : World} (h : W.grownBy W' none) : Below W.heap.size W W' := (Chg.of_grown (S := fun _ => False) h (fun k e => by cases e)).to_below (fun _ _ e => e.elim) (Nat.le_refl _)
theorem R_oneS {W : World} {k base : Nat} {x : ByteArray} (h : W.heap[k]? = some (.cells #[.string x] 9 (0, 0))) (hb : base ≤ k) : Kd.R Kd.string 9 W base (fun _ => True) (.slice (some ⟨k, 0, none⟩) 1 1) [x] :=
  ⟨fun _ _ => trivial, [.string x], ⟨rfl, .inr ⟨k, 1, #[.string x], rfl, hb, h, by simp, by decide, rfl, rfl⟩⟩, ⟨rfl, fun j p hp => by
    cases j with
    | zero => obtain rfl := Option.some.inj hp; rfl
    | succ j => simp at hp⟩⟩
theorem strM (W' : World) (base : Nat) (ok : Nat → Prop) (x : ByteArray) (cs : List Value) (h : Kd.string.K W' x cs) : ∀ W2, Kd.string.M W2 base ok x cs := fun _ => h
set_option maxRecDepth 100000 in
set_option maxHeartbeats 16000000 in
theorem sortStr_calls (A0 : Option Addr) (c0 : Nat) (l0 : List ByteArray) (w : World) (hr0 : Kd.C Kd.string w A0 l0.length l0) (hlim : l0.length < 1000000) :
    Calls Try.prog 38 #[.slice A0 l0.length c0] w fun e w' => ∃ v, e = .returned v ∧ Kd.R Kd.string 9 w' w.heap.size (fun _ => True) v (sortS l0) ∧ Below w.heap.size w w' := by
  have HR0 := Aside0.mk hr0
  have HLIM := Aside0.mk hlim
  clear hr0 hlim
  go_enter Try.func38, Try.ntmps38
  go_wp2
  go_loopg [3, 9] l0.length (fun kq v3 v9 W => ∃ (i : Nat) (res : List ByteArray) (A1 : Option Addr) (c1 : Nat), v3 = .slice A1 res.length c1 ∧ v9 = .int .i64 (i : Int) ∧ kq + i = l0.length ∧ Aside0 (Kd.R Kd.string 9 W w.heap.size (fun _ => True) (.slice A1 res.length c1) res ∧ Below w.heap.size w W ∧ res.length ≤ i ∧ res = sortS (l0.take i)))
  case atStart => exact ⟨0, [], none, 0, rfl, rfl, by omega, ⟨Kd.R_nil _ _ _ _ _, Below.refl _ _, Nat.le_refl _, rfl⟩⟩
  case round =>
    obtain ⟨i, res, A1, c1, rfl, rfl, hi, hA⟩ := hrel
    cases gk with
    | zero =>
      have hb : decide ((i : Int) < (l0.length : Int)) = false := decide_eq_false (by omega)
      have hb' : decide (i < l0.length) = false := decide_eq_false (by omega)
      have HIL := Aside0.mk (show i = l0.length by omega)
      clear hi
      go_wp2
      go_ret
      refine ⟨_, rfl, ?_, hA.out.2.1⟩
      have h := hA.out.2.2.2
      rw [HIL.out, List.take_length] at h
      rw [← h]
      exact hA.out.1
    | succ k2 =>
      have hb : decide ((i : Int) < (l0.length : Int)) = true := decide_eq_true (by omega)
      have hb' : decide (i < l0.length) = true := decide_eq_true (by omega)
      have hil : i < l0.length := by omega
      obtain ⟨x, hx⟩ : ∃ x, rdOf ByteArray.empty l0 (i : Int) = x := ⟨_, rfl⟩
      obtain ⟨ad, rfl, x0⟩ := Kd.at_string (Kd.C_below HR0.out hA.out.2.1) (i : Int) (by omega) (by omega)
      rw [hx] at x0
      rw [Int.toNat_natCast] at x0
      have r0 := eq_true (show (0 : Int) ≤ (i : Int) by omega)
      have r1 := eq_true (show (i : Int) < (l0.length : Int) by omega)
      have r2 := eq_true hil
      have HST := Aside0.mk (show sortS (l0.take (i + 1)) = insS (sortS (l0.take i)) x by
        rw [← sortS_snoc, List.take_add_one, List.getElem?_eq_getElem hil]
        congr 2
        rw [← hx]; unfold rdOf; rw [Int.toNat_natCast, List.getD_eq_getElem?_getD, List.getElem?_eq_getElem hil]; rfl)
      clear hil hx
      go_upto_block 2 with (fail)
      go_cut [6] (fun v6 wx => ∃ j : Nat, v6 = .int .i64 (j : Int) ∧ wx = wr ∧ Aside0 (j ≤ res.length ∧ (∀ m, m < j → ∀ y, res[m]? = some y → ltS y x = true) ∧ (∀ y, res[j]? = some y → ltS y x = false)))
      case first =>
        go_wp2
        go_loopg [6] res.length (fun kq v6 W => ∃ j : Nat, v6 = .int .i64 (j : Int) ∧ W = wr ∧ kq + j = res.length ∧ Aside0 (∀ m, m < j → ∀ y, res[m]? = some y → ltS y x = true))
        case atStart => exact ⟨0, rfl, rfl, by omega, ⟨fun m hm => absurd hm (Nat.not_lt_zero m)⟩⟩
        case round =>
          obtain ⟨j, rfl, rfl, hj, hM⟩ := hrel
          cases gk with
          | zero =>
            have hjl : j = res.length := by omega
            have q1 : decide ((j : Int) < (res.length : Int)) = false := decide_eq_false (by omega)
            have q2 : decide (j < res.length) = false := decide_eq_false (by omega)
            have HJ := Aside0.mk hjl
            clear hjl hj
            go_wp2
            go_meet
            case rel => exact ⟨j, rfl, rfl, ⟨by rw [HJ.out]; exact Nat.le_refl _, hM.out, fun y hy => by rw [HJ.out] at hy; simp at hy⟩⟩
          | succ k3 =>
            have q1 : decide ((j : Int) < (res.length : Int)) = true := decide_eq_true (by omega)
            have q2 : decide (j < res.length) = true := decide_eq_true (by omega)
            have hjl : j < res.length := by omega
            obtain ⟨y, hy⟩ : ∃ y, rdOf ByteArray.empty res (j : Int) = y := ⟨_, rfl⟩
            have hgy : res[j]? = some y := by rw [← hy]; unfold rdOf; rw [Int.toNat_natCast, List.getD_eq_getElem?_getD, List.getElem?_eq_getElem hjl]; rfl
            obtain ⟨ad1, rfl, x1⟩ := Kd.at_string (Kd.R_reads' hA.out.1).2.2 (j : Int) (by omega) (by omega)
            rw [hy, Int.toNat_natCast] at x1
            have HGY := Aside0.mk hgy
            have r3 := eq_true (show (0 : Int) ≤ (j : Int) by omega)
            have r4 := eq_true (show (j : Int) < (res.length : Int) by omega)
            have r5 := eq_true hjl
            clear hy hgy hjl
            cases hlt : Op.bytesLess y.toList x.toList with
            | true =>
              have HLT := Aside0.mk (show ltS y x = true from hlt)
              go_wp2
              go_roundg k3
              case measure => omega
              case rel => exact ⟨j + 1, by congr 1; have := HLIM.out; have := hA.out.2.2.1; unfold wrap64; omega, rfl, by omega, ⟨fun m hm z hz => by
                rcases Nat.lt_or_ge m j with h | h
                · exact hM.out m h z hz
                · obtain rfl : m = j := by omega
                  rw [HGY.out] at hz
                  rw [← Option.some.inj hz]
                  exact HLT.out⟩⟩
            | false =>
              have HLT := Aside0.mk (show ltS y x = false from hlt)
              go_wp2
              go_meet
              case rel => exact ⟨j, rfl, rfl, ⟨by omega, hM.out, fun z hz => by
                rw [HGY.out] at hz
                rw [← Option.some.inj hz]
                exact HLT.out⟩⟩
      case rest =>
        obtain ⟨j, rfl, hwx, hJ⟩ := hcut
        obtain rfl := hwx.symm
        clear r0 r1 r2 x0
        obtain ⟨bi, hbi⟩ : ∃ bi, decide (res[j]? ≠ some x) = bi := ⟨_, rfl⟩
        have HBI := Aside0.mk hbi
        clear hbi
        iterate 2 (first | go_values | go_skip | go_guarded | go_step | go_upon | go_back | go_simp)
        go_cut [38] (fun v38 wx => v38 = .bool bi ∧ wx = wr)
        case first =>
          by_cases hje : j = res.length
          · have q1 : ((j : Int) == (res.length : Int)) = true := by rw [hje]; simp
            obtain rfl : bi = true := by rw [← HBI.out, hje]; simp
            clear hje
            go_wp2
            go_meet
            case rel => exact ⟨rfl, rfl⟩
          · have q1 : ((j : Int) == (res.length : Int)) = false := by simp; omega
            have hjl : j < res.length := by have := hJ.out.1; omega
            obtain ⟨y, hy⟩ : ∃ y, rdOf ByteArray.empty res (j : Int) = y := ⟨_, rfl⟩
            have hgy : res[j]? = some y := by rw [← hy]; unfold rdOf; rw [Int.toNat_natCast, List.getD_eq_getElem?_getD, List.getElem?_eq_getElem hjl]; rfl
            obtain ⟨ad1, rfl, x1⟩ := Kd.at_string (Kd.R_reads' hA.out.1).2.2 (j : Int) (by omega) (by omega)
            rw [hy, Int.toNat_natCast] at x1
            have r3 := eq_true (show (0 : Int) ≤ (j : Int) by omega)
            have r4 := eq_true (show (j : Int) < (res.length : Int) by omega)
            have r5 := eq_true hjl
            have q2 : (y.toList != x.toList) = bi := by
              rw [← HBI.out, hgy]
              by_cases h : y = x
              · subst h; simp
              · have h2 : y.toList ≠ x.toList := fun e => h ((Lib.bytes_beq_iff y x).1 (beq_iff_eq.2 e))
                simp [h, h2]
            have HQ2 := Aside0.mk q2
            clear hy hgy hjl hje
            go_wp2
            go_meet
            case rel => exact ⟨by rw [← HQ2.out]; rfl, rfl⟩
        case rest =>
          obtain ⟨rfl, hwx⟩ := hcut
          obtain rfl := hwx.symm
          cases bi with
          | false =>
            go_wp2
            go_roundg k2
            case measure => omega
            case rel =>
              refine ⟨i + 1, res, A1, c1, rfl, by congr 1; have := HLIM.out; unfold wrap64; omega, by omega, ⟨hA.out.1, hA.out.2.1, by have := hA.out.2.2.1; omega, ?_⟩⟩
              rw [HST.out, ← hA.out.2.2.2, ins_eq hJ.out.1 hJ.out.2.1 hJ.out.2.2, if_neg (by have := HBI.out; simpa using this)]
          | true =>
            go_upto_region 9 with (fail)
            have hjl := hJ.out.1
            have HJ := Aside0.mk (hJ.out)
            have HJL := Aside0.mk hjl
            rcases own_head hA.out.1 with ⟨rfl, h2, rfl, rfl⟩ | ⟨g, rfl, hcap, hbg, hgl⟩
            · obtain rfl : j = 0 := by simpa using hjl
              clear hjl h2
              refine start_ (n := 12) (S := fun w' => True) (ds := ([] : List Nat)) #[false, false, false, false, false, false, false, false, false, false, false, false] (by kernel_rfl) rfl rfl (trivial) (fun hHeld => ?_)
              refine pure_ (i := 0) (N := some 39) (v := ?_) (a' := ?_) #[true, false, false, false, false, false, false, false, false, false, false, false] rfl rfl (by kernel_rfl) (fun _ _ _ h => h) (Or.inl ⟨by rfl, ?_⟩) ?_ ?_
              rotate_left
              · intro w'
                go_simp
                with_reducible rfl
              rotate_left
              · simp only [Act.put, List.setIfInBounds_toArray, List.set_cons_zero, List.set_cons_succ, i64_w, i32_w]
                rfl
              refine pure_ (i := 1) (N := some 40) (v := ?_) (a' := ?_) #[true, true, false, false, false, false, false, false, false, false, false, false] rfl rfl (by kernel_rfl) (fun _ _ _ h => h) (Or.inl ⟨by rfl, ?_⟩) ?_ ?_
              rotate_left
              · intro w'
                go_simp
                with_reducible rfl
              rotate_left
              · simp only [Act.put, List.setIfInBounds_toArray, List.set_cons_zero, List.set_cons_succ, i64_w, i32_w]
                rfl
              refine pure_ (i := 2) (N := some 41) (v := ?_) (a' := ?_) #[true, true, true, false, false, false, false, false, false, false, false, false] rfl rfl (by kernel_rfl) (fun _ _ _ h => h) (Or.inl ⟨by rfl, ?_⟩) ?_ ?_
              rotate_left
              · intro w'
                go_simp
                with_reducible rfl
              rotate_left
              · simp only [Act.put, List.setIfInBounds_toArray, List.set_cons_zero, List.set_cons_succ, i64_w, i32_w]
                rfl
              refine pure_ (i := 3) (N := some 42) (v := ?_) (a' := ?_) #[true, true, true, true, false, false, false, false, false, false, false, false] rfl rfl (by kernel_rfl) (fun _ _ _ h => h) (Or.inl ⟨by rfl, ?_⟩) ?_ ?_
              rotate_left
              · intro w'
                go_simp
                with_reducible rfl
              rotate_left
              · simp only [Act.put, List.setIfInBounds_toArray, List.set_cons_zero, List.set_cons_succ, i64_w, i32_w]
                rfl
              refine pure_ (i := 4) (N := some 43) (v := ?_) (a' := ?_) #[true, true, true, true, true, false, false, false, false, false, false, false] rfl rfl (by kernel_rfl) (fun _ _ _ h => h) (Or.inl ⟨by rfl, ?_⟩) ?_ ?_
              rotate_left
              · intro w'
                go_simp
                with_reducible rfl
              rotate_left
              · simp only [Act.put, List.setIfInBounds_toArray, List.set_cons_zero, List.set_cons_succ, i64_w, i32_w]
                rfl
              refine pure_ (i := 6) (N := some 45) (v := ?_) (a' := ?_) #[true, true, true, true, true, false, true, false, false, false, false, false] rfl rfl (by kernel_rfl) (fun _ _ _ h => h) (Or.inl ⟨by rfl, ?_⟩) ?_ ?_
              rotate_left
              · intro w'
                go_simp
                with_reducible rfl
              rotate_left
              · simp only [Act.put, List.setIfInBounds_toArray, List.set_cons_zero, List.set_cons_succ, i64_w, i32_w]
                rfl
              refine pure_ (i := 7) (N := some 46) (v := ?_) (a' := ?_) #[true, true, true, true, true, false, true, true, false, false, false, false] rfl rfl (by kernel_rfl) (fun _ _ _ h => h) (Or.inl ⟨by rfl, ?_⟩) ?_ ?_
              rotate_left
              · intro w'
                go_simp
                with_reducible rfl
              rotate_left
              · simp only [Act.put, List.setIfInBounds_toArray, List.set_cons_zero, List.set_cons_succ, i64_w, i32_w]
                rfl
              refine pure_ (i := 8) (N := some 47) (v := ?_) (a' := ?_) #[true, true, true, true, true, false, true, true, true, false, false, false] rfl rfl (by kernel_rfl) (fun _ _ _ h => h) (Or.inl ⟨by rfl, ?_⟩) ?_ ?_
              rotate_left
              · intro w'
                go_simp
                with_reducible rfl
              rotate_left
              · simp only [Act.put, List.setIfInBounds_toArray, List.set_cons_zero, List.set_cons_succ, i64_w, i32_w]
                rfl
              refine one_ (i := 5) (N := some 44) #[true, true, true, true, true, true, true, true, true, false, false, false] rfl rfl (by kernel_rfl) (by decide) (fun K hK => ?_)
              refine value_ (v := .slice (some ⟨wr.heap.size, 0, none⟩) 1 1) (w1 := wr.drew.alloc (.cells #[.string x] 9)) (by rfl) rfl ?_ ?_
              · go_simp
              obtain ⟨W4, hW4⟩ : ∃ W4, wr.drew.alloc (.cells #[.string x] 9) = W4 := ⟨_, rfl⟩
              have hb4 : Below wr.heap.size wr W4 := by rw [← hW4]; exact below_alloc (below_drew1 (Below.refl _ _)) _
              have hk4 : W4.heap[wr.heap.size]? = some (.cells #[.string x] 9 (0, 0)) := by rw [← hW4]; exact hb_new wr.drew _
              have hs4 : wr.heap.size < W4.heap.size := lt_of_blk hk4
              rw [hW4]
              clear hW4
              have HB4 := Aside0.mk hb4
              have HO4 := Aside0.mk (R_oneS hk4 (Nat.le_refl _))
              have HBW4 := Aside0.mk (hA.out.2.1.trans (hb4.mono hA.out.2.1.size))
              have HS4 := Aside0.mk hs4
              clear hb4 hk4 hs4
              refine hK.out _ _ (trivial) (fun hHeld => ?_)
              clear hK K
              refine norm_ (a' := ?_) ?_ ?_
              rotate_left
              · show Act.put _ (some 44) _ = _
                simp only [Act.put, List.setIfInBounds_toArray, List.set_cons_zero, List.set_cons_succ, i64_w, i32_w]
                rfl
              have hCd : Kd.C Kd.string W4 none 0 ([] : List ByteArray) := by
                exact Kd.C_nil _ _
              have HCD := Aside0.mk hCd
              have HLM := Aside0.mk (show (([x] : List ByteArray).length + 0) * 16 ≤ 140737488355328 by have := HLIM.out; have := hA.out.2.2.1; simp only [List.length_singleton]; omega)
              clear hCd
              refine one_ (i := 9) (N := some 48) #[true, true, true, true, true, true, true, true, true, true, false, false] rfl rfl (by kernel_rfl) (by decide) (fun K hK => ?_)
              refine Kd.R_append_rows_step Kd.string (w0 := wr) wr.heap.size (by rfl) (.tmp 44) (.tmp 47) 39 9 (.string ⟨#[]⟩) 16 rfl Try.underlying39 sinfo9 rfl (by decide) (by decide) (.slice (some ⟨wr.heap.size, 0, none⟩) 1 1) [x] ([] : List ByteArray) none 0 0 (fun _ => True) (fun _ => False) rfl rfl HO4.out HCD.out (fun _ _ h => h) (fun _ h => h.elim) (fun _ _ => trivial) HB4.out HB4.out.size HLM.out ?_
              intro v5 w5 hv5 hb5 hg5 _
              obtain ⟨A5, c5, hw5⟩ := Kd.R_slice hv5
              subst hw5
              have HV5 := Aside0.mk hv5
              have HB5 := Aside0.mk hb5
              have HBW5 := Aside0.mk (hA.out.2.1.trans (hb5.mono hA.out.2.1.size))
              clear hv5 hb5 hg5
              refine hK.out _ _ (trivial) (fun hHeld => ?_)
              clear hK K
              refine norm_ (a' := ?_) ?_ ?_
              rotate_left
              · show Act.put _ (some 48) _ = _
                simp only [Act.put, List.setIfInBounds_toArray, List.set_cons_zero, List.set_cons_succ, i64_w, i32_w]
                rfl
              have hCt : Kd.C Kd.string w5 none 0 ([] : List ByteArray) := by
                exact Kd.C_nil _ _
              have HFULL := Aside0.mk (run_append_full (P := Try.prog) Kd.string (W := w5) 39 39 9 (.string ⟨#[]⟩) 16 Try.underlying39 sinfo9 rfl (by decide) none 0 0 ([] : List ByteArray) A5 ([x] ++ ([] : List ByteArray)).length c5 ([x] ++ ([] : List ByteArray)) hCt (Kd.R_reads' HV5.out).2.2 (fun W' base ok x cs h => h) (by simp) (by simp) (fun _ => ⟨rfl, rfl⟩) (by have := HLIM.out; have := hA.out.2.2.1; have := HJL.out; first | (simp; done) | (simp; omega)) (by have := HLIM.out; have := hA.out.2.2.1; have := HJL.out; first | (simp; done) | (simp; omega)) (fun _ => True) (fun _ _ => trivial))
              clear hCt
              refine one_ (i := 10) (N := some 49) #[true, true, true, true, true, true, true, true, true, true, true, false] rfl rfl (by kernel_rfl) (by decide) (fun K hK => ?_)
              obtain ⟨v6, w6, hrun, hv6, hg6⟩ := HFULL.out
              refine event_step (v := v6) (w1 := w6) (by rfl) (by simpa [execOp, resolve, invoke, builtin, Act.eval, Act.put, Result.andThen] using congrArg (fun r => r.andThen fun v w => Result.ok (Next.value v) w) hrun) ?_
              have HBW6 := Aside0.mk (HBW5.out.trans ((grown_below hg6).mono HBW5.out.size))
              obtain ⟨A6, c6, hw6⟩ := Kd.R_slice hv6
              subst hw6
              have HV6 := Aside0.mk hv6
              clear hrun hv6 hg6
              refine hK.out _ _ (trivial) (fun hHeld => ?_)
              clear hK K
              refine norm_ (a' := ?_) ?_ ?_
              rotate_left
              · show Act.put _ (some 49) _ = _
                simp only [Act.put, List.setIfInBounds_toArray, List.set_cons_zero, List.set_cons_succ, i64_w, i32_w]
                rfl
              refine pure_ (i := 11) (N := some 3) (v := ?_) (a' := ?_) #[true, true, true, true, true, true, true, true, true, true, true, true] rfl rfl (by kernel_rfl) (fun _ _ _ h => h) (Or.inl ⟨by rfl, ?_⟩) ?_ ?_
              rotate_left
              · intro w'
                go_simp
                with_reducible rfl
              rotate_left
              · simp only [Act.put, List.setIfInBounds_toArray, List.set_cons_zero, List.set_cons_succ, i64_w, i32_w]
                rfl
              refine done_ (by kernel_rfl) ?_
              clear hHeld
              go_wp2
              go_roundg k2
              case measure => omega
              case rel =>
                have hins : insS (sortS (l0.take i)) x = ([] : List ByteArray) ++ ([x] ++ ([] : List ByteArray)) := by
                  rw [← hA.out.2.2.2, ins_eq HJ.out.1 HJ.out.2.1 HJ.out.2.2, if_pos (by simp)]
                  rfl
                refine ⟨i + 1, ([] : List ByteArray) ++ ([x] ++ ([] : List ByteArray)), A6, c6, rfl, by congr 1; have := HLIM.out; unfold wrap64; omega, by omega, ⟨Kd.R_lower HV6.out HBW5.out.size, HBW6.out, ?_, ?_⟩⟩
                · have h1 := insS_len (sortS (l0.take i)) x
                  rw [hins, ← hA.out.2.2.2] at h1
                  have := hA.out.2.2.1
                  omega
                · rw [HST.out, hins]
            · have q0 := eq_true (show (0 : Int) ≤ (j : Int) by omega)
              have q1 := eq_true (show (j : Int) ≤ (c1 : Int) by omega)
              have q2 := eq_true (show j ≤ c1 by omega)
              have q3 := eq_true (show (j : Int) ≤ (res.length : Int) by omega)
              have q4 := eq_true (show j ≤ res.length by omega)
              have hcap2 := Aside0.mk hcap
              clear hjl hcap
              refine start_ (n := 12) (S := fun w' => True) (ds := ([] : List Nat)) #[false, false, false, false, false, false, false, false, false, false, false, false] (by kernel_rfl) rfl rfl (trivial) (fun hHeld => ?_)
              refine pure_ (i := 0) (N := some 39) (v := ?_) (a' := ?_) #[true, false, false, false, false, false, false, false, false, false, false, false] rfl rfl (by kernel_rfl) (fun _ _ _ h => h) (Or.inl ⟨by rfl, ?_⟩) ?_ ?_
              rotate_left
              · intro w'
                go_simp
                with_reducible rfl
              rotate_left
              · simp only [Act.put, List.setIfInBounds_toArray, List.set_cons_zero, List.set_cons_succ, i64_w, i32_w]
                rfl
              refine pure_ (i := 1) (N := some 40) (v := ?_) (a' := ?_) #[true, true, false, false, false, false, false, false, false, false, false, false] rfl rfl (by kernel_rfl) (fun _ _ _ h => h) (Or.inl ⟨by rfl, ?_⟩) ?_ ?_
              rotate_left
              · intro w'
                go_simp
                with_reducible rfl
              rotate_left
              · simp only [Act.put, List.setIfInBounds_toArray, List.set_cons_zero, List.set_cons_succ, i64_w, i32_w]
                rfl
              refine pure_ (i := 2) (N := some 41) (v := ?_) (a' := ?_) #[true, true, true, false, false, false, false, false, false, false, false, false] rfl rfl (by kernel_rfl) (fun _ _ _ h => h) (Or.inl ⟨by rfl, ?_⟩) ?_ ?_
              rotate_left
              · intro w'
                go_simp
                with_reducible rfl
              rotate_left
              · simp only [Act.put, List.setIfInBounds_toArray, List.set_cons_zero, List.set_cons_succ, i64_w, i32_w]
                rfl
              refine pure_ (i := 3) (N := some 42) (v := ?_) (a' := ?_) #[true, true, true, true, false, false, false, false, false, false, false, false] rfl rfl (by kernel_rfl) (fun _ _ _ h => h) (Or.inl ⟨by rfl, ?_⟩) ?_ ?_
              rotate_left
              · intro w'
                go_simp
                with_reducible rfl
              rotate_left
              · simp only [Act.put, List.setIfInBounds_toArray, List.set_cons_zero, List.set_cons_succ, i64_w, i32_w]
                rfl
              refine pure_ (i := 4) (N := some 43) (v := ?_) (a' := ?_) #[true, true, true, true, true, false, false, false, false, false, false, false] rfl rfl (by kernel_rfl) (fun _ _ _ h => h) (Or.inl ⟨by rfl, ?_⟩) ?_ ?_
              rotate_left
              · intro w'
                go_simp
                with_reducible rfl
              rotate_left
              · simp only [Act.put, List.setIfInBounds_toArray, List.set_cons_zero, List.set_cons_succ, i64_w, i32_w]
                rfl
              refine pure_ (i := 6) (N := some 45) (v := ?_) (a' := ?_) #[true, true, true, true, true, false, true, false, false, false, false, false] rfl rfl (by kernel_rfl) (fun _ _ _ h => h) (Or.inl ⟨by rfl, ?_⟩) ?_ ?_
              rotate_left
              · intro w'
                go_simp
                with_reducible rfl
              rotate_left
              · simp only [Act.put, List.setIfInBounds_toArray, List.set_cons_zero, List.set_cons_succ, i64_w, i32_w]
                rfl
              refine pure_ (i := 7) (N := some 46) (v := ?_) (a' := ?_) #[true, true, true, true, true, false, true, true, false, false, false, false] rfl rfl (by kernel_rfl) (fun _ _ _ h => h) (Or.inl ⟨by rfl, ?_⟩) ?_ ?_
              rotate_left
              · intro w'
                go_simp
                with_reducible rfl
              rotate_left
              · simp only [Act.put, List.setIfInBounds_toArray, List.set_cons_zero, List.set_cons_succ, i64_w, i32_w]
                rfl
              refine pure_ (i := 8) (N := some 47) (v := ?_) (a' := ?_) #[true, true, true, true, true, false, true, true, true, false, false, false] rfl rfl (by kernel_rfl) (fun _ _ _ h => h) (Or.inl ⟨by rfl, ?_⟩) ?_ ?_
              rotate_left
              · intro w'
                go_simp
                with_reducible rfl
              rotate_left
              · simp only [Act.put, List.setIfInBounds_toArray, List.set_cons_zero, List.set_cons_succ, i64_w, i32_w]
                rfl
              refine one_ (i := 5) (N := some 44) #[true, true, true, true, true, true, true, true, true, false, false, false] rfl rfl (by kernel_rfl) (by decide) (fun K hK => ?_)
              refine value_ (v := .slice (some ⟨wr.heap.size, 0, none⟩) 1 1) (w1 := wr.drew.alloc (.cells #[.string x] 9)) (by rfl) rfl ?_ ?_
              · go_simp
              obtain ⟨W4, hW4⟩ : ∃ W4, wr.drew.alloc (.cells #[.string x] 9) = W4 := ⟨_, rfl⟩
              have hb4 : Below wr.heap.size wr W4 := by rw [← hW4]; exact below_alloc (below_drew1 (Below.refl _ _)) _
              have hk4 : W4.heap[wr.heap.size]? = some (.cells #[.string x] 9 (0, 0)) := by rw [← hW4]; exact hb_new wr.drew _
              have hs4 : wr.heap.size < W4.heap.size := lt_of_blk hk4
              rw [hW4]
              clear hW4
              have HB4 := Aside0.mk hb4
              have HO4 := Aside0.mk (R_oneS hk4 (Nat.le_refl _))
              have HBW4 := Aside0.mk (hA.out.2.1.trans (hb4.mono hA.out.2.1.size))
              have HS4 := Aside0.mk hs4
              clear hb4 hk4 hs4
              refine hK.out _ _ (trivial) (fun hHeld => ?_)
              clear hK K
              refine norm_ (a' := ?_) ?_ ?_
              rotate_left
              · show Act.put _ (some 44) _ = _
                simp only [Act.put, List.setIfInBounds_toArray, List.set_cons_zero, List.set_cons_succ, i64_w, i32_w]
                rfl
              have hCd : Kd.C Kd.string W4 (if c1 = j then some ⟨g, 0, none⟩ else some ⟨g, j, none⟩) (res.length - j) (res.drop j) := by
                have h := Kd.C_drop (k := Kd.string) (c := c1) (Kd.C_below (Kd.R_reads' hA.out.1).2.2 HB4.out) HJL.out hcap2.out
                rw [List.length_drop] at h
                have e : (Option.map (fun a : Addr => a.add (j * Kd.string.sz)) (some ⟨g, 0, none⟩)) = some (⟨g, j, none⟩ : Addr) := by
                  simp only [Option.map_some]
                  rw [add_plain]
                  simp [Kd.string, Kd.scalar]
                rw [e] at h
                exact h
              have HCD := Aside0.mk hCd
              have HLM := Aside0.mk (show (([x] : List ByteArray).length + (res.length - j)) * 16 ≤ 140737488355328 by have := HLIM.out; have := hA.out.2.2.1; simp only [List.length_singleton]; omega)
              clear hCd
              refine one_ (i := 9) (N := some 48) #[true, true, true, true, true, true, true, true, true, true, false, false] rfl rfl (by kernel_rfl) (by decide) (fun K hK => ?_)
              refine Kd.R_append_rows_step Kd.string (w0 := wr) wr.heap.size (by rfl) (.tmp 44) (.tmp 47) 39 9 (.string ⟨#[]⟩) 16 rfl Try.underlying39 sinfo9 rfl (by decide) (by decide) (.slice (some ⟨wr.heap.size, 0, none⟩) 1 1) [x] (res.drop j) (if c1 = j then some ⟨g, 0, none⟩ else some ⟨g, j, none⟩) (res.length - j) (c1 - j) (fun _ => True) (fun _ => False) rfl rfl HO4.out HCD.out (fun _ _ h => h) (fun _ h => h.elim) (fun _ _ => trivial) HB4.out HB4.out.size HLM.out ?_
              intro v5 w5 hv5 hb5 hg5 _
              obtain ⟨A5, c5, hw5⟩ := Kd.R_slice hv5
              subst hw5
              have HV5 := Aside0.mk hv5
              have HB5 := Aside0.mk hb5
              have HBW5 := Aside0.mk (hA.out.2.1.trans (hb5.mono hA.out.2.1.size))
              clear hv5 hb5 hg5
              refine hK.out _ _ (trivial) (fun hHeld => ?_)
              clear hK K
              refine norm_ (a' := ?_) ?_ ?_
              rotate_left
              · show Act.put _ (some 48) _ = _
                simp only [Act.put, List.setIfInBounds_toArray, List.set_cons_zero, List.set_cons_succ, i64_w, i32_w]
                rfl
              have hCt : Kd.C Kd.string w5 (some ⟨g, 0, none⟩) j (res.take j) := by
                have h := Kd.C_take (Kd.C_below (Kd.R_reads' hA.out.1).2.2 HB5.out) HJL.out
                rw [List.length_take, Nat.min_eq_left HJL.out] at h
                exact h
              have HFULL := Aside0.mk (run_append_full (P := Try.prog) Kd.string (W := w5) 39 39 9 (.string ⟨#[]⟩) 16 Try.underlying39 sinfo9 rfl (by decide) (some ⟨g, 0, none⟩) j j (res.take j) A5 ([x] ++ (res.drop j)).length c5 ([x] ++ (res.drop j)) hCt (Kd.R_reads' HV5.out).2.2 (fun W' base ok x cs h => h) (by simp) (by simp) (fun h => by cases h) (by have := HLIM.out; have := hA.out.2.2.1; have := HJL.out; first | (simp; done) | (simp; omega)) (by have := HLIM.out; have := hA.out.2.2.1; have := HJL.out; first | (simp; done) | (simp; omega)) (fun _ => True) (fun _ _ => trivial))
              clear hCt
              refine one_ (i := 10) (N := some 49) #[true, true, true, true, true, true, true, true, true, true, true, false] rfl rfl (by kernel_rfl) (by decide) (fun K hK => ?_)
              obtain ⟨v6, w6, hrun, hv6, hg6⟩ := HFULL.out
              refine event_step (v := v6) (w1 := w6) (by rfl) (by simpa [execOp, resolve, invoke, builtin, Act.eval, Act.put, Result.andThen] using congrArg (fun r => r.andThen fun v w => Result.ok (Next.value v) w) hrun) ?_
              have HBW6 := Aside0.mk (HBW5.out.trans ((grown_below hg6).mono HBW5.out.size))
              obtain ⟨A6, c6, hw6⟩ := Kd.R_slice hv6
              subst hw6
              have HV6 := Aside0.mk hv6
              clear hrun hv6 hg6
              refine hK.out _ _ (trivial) (fun hHeld => ?_)
              clear hK K
              refine norm_ (a' := ?_) ?_ ?_
              rotate_left
              · show Act.put _ (some 49) _ = _
                simp only [Act.put, List.setIfInBounds_toArray, List.set_cons_zero, List.set_cons_succ, i64_w, i32_w]
                rfl
              refine pure_ (i := 11) (N := some 3) (v := ?_) (a' := ?_) #[true, true, true, true, true, true, true, true, true, true, true, true] rfl rfl (by kernel_rfl) (fun _ _ _ h => h) (Or.inl ⟨by rfl, ?_⟩) ?_ ?_
              rotate_left
              · intro w'
                go_simp
                with_reducible rfl
              rotate_left
              · simp only [Act.put, List.setIfInBounds_toArray, List.set_cons_zero, List.set_cons_succ, i64_w, i32_w]
                rfl
              refine done_ (by kernel_rfl) ?_
              clear hHeld
              go_wp2
              all_goals
                go_roundg k2
                case measure => omega
                case rel =>
                  have hins : insS (sortS (l0.take i)) x = res.take j ++ ([x] ++ res.drop j) := by
                    rw [← hA.out.2.2.2, ins_eq HJ.out.1 HJ.out.2.1 HJ.out.2.2, if_pos (by have := HBI.out; simpa using this)]
                    rfl
                  refine ⟨i + 1, res.take j ++ ([x] ++ res.drop j), A6, c6, by simp [Nat.min_eq_left HJL.out], by congr 1; have := HLIM.out; unfold wrap64; omega, by omega, ⟨Kd.R_lower HV6.out HBW5.out.size, HBW6.out, ?_, ?_⟩⟩
                  · have h1 := insS_len (sortS (l0.take i)) x
                    rw [hins, ← hA.out.2.2.2] at h1
                    have := hA.out.2.2.1
                    omega
                  · rw [HST.out, hins]
end Go.Proofs.Ytcikmpcacakfbaa.Hand
