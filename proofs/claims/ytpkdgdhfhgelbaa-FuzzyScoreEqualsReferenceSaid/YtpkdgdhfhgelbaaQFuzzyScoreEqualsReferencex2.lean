-- Written by gen.py (this repo's wip/), which runs the kit's print.py with more arms. Lean checks it.
import Derived.Test.YtpkdgdhfhgelbaaQFuzzyScoreEqualsReferencex0
import Derived.Test.YtpkdgdhfhgelbaaQFuzzyScoreEqualsReferencex1
namespace Go.Proofs.Ytpkdgdhfhgelbaa.QFuzzyScoreEqualsReference
open Go.RowKit Go.Proofs.YtpkdgdhfhgelbaaW.PrintWords Go.Proofs.YtpkdgdhfhgelbaaW.PrintLast Go.Proofs.YtpkdgdhfhgelbaaW.PrintMore
attribute [local go_sem] max2_int min2_int max_two min_two max_three min_three max_four min_four   -- for this text's walks alone
set_option linter.unusedVariables false
set_option linter.unusedSimpArgs false

section
open Go.Lib Go.Shelf Go.Proofs.Ytpkdgdhfhgelbaa.Hand Go.Proofs.Ytpkdgdhfhgelbaa.Aid
/-- Whole numbers as cells. -/
def ints (xs : List Int) : Array Value := (xs.map (Value.int .i64)).toArray
theorem mul_one : ∀ n : Fin 41, bits_Mul.f 1 ((n : Nat) : Int) = some (0, ((n : Nat) : Int)) := by decide +kernel
theorem mul_n (n : Nat) (h : n ≤ 40) : bits_Mul.f 1 (n : Int) = some (0, (n : Int)) := mul_one ⟨n, by omega⟩
theorem inf3 : ∃ i, Try.prog.info? 3 = some i ∧ i.zero = some (.int .i64 0) ∧ i.size = 1 ∧ i.bytes = 8 := ⟨_, rfl, by kernel_rfl, by kernel_rfl, by kernel_rfl⟩
/-- What stands in the row when m of its n places are filled. -/
def filled (v : Int) (n m : Nat) : Array Value := ints (List.replicate m v ++ List.replicate (n - m) 0)
theorem made_int (v : Int) (n : Nat) : madeCells #[.int .i64 0] n = filled v n 0 := by
  unfold filled ints
  apply Array.ext'
  rw [List.toList_toArray]
  apply List.ext_getElem
  · simp [madeCells]
  · intro i h1 h2
    simp [madeCells, Nat.mod_one]
theorem filled_list (v : Int) (n m : Nat) : (filled v n m).toList = List.replicate m (.int .i64 v) ++ List.replicate (n - m) (.int .i64 0) := by
  unfold filled ints
  rw [List.toList_toArray, List.map_append, List.map_replicate, List.map_replicate]
theorem filled_size (v : Int) (n m : Nat) (h : m ≤ n) : (filled v n m).size = n := by
  rw [← Array.length_toList, filled_list, List.length_append, List.length_replicate, List.length_replicate]
  omega
theorem filled_put (v : Int) (n m k : Nat) (h : m + k ≤ n) : ((filled v n m).toList.take m ++ List.replicate k (Value.int .i64 v) ++ (filled v n m).toList.drop (m + k)).toArray = filled v n (m + k) := by
  apply Array.ext'
  rw [List.toList_toArray, filled_list, filled_list]
  have h1 : (List.replicate m (Value.int .i64 v) ++ List.replicate (n - m) (Value.int .i64 0)).take m = List.replicate m (.int .i64 v) := by
    rw [List.take_append_of_le_length (by simp), List.take_of_length_le (by simp)]
  have h2 : (List.replicate m (Value.int .i64 v) ++ List.replicate (n - m) (Value.int .i64 0)).drop (m + k) = List.replicate (n - (m + k)) (.int .i64 0) := by
    rw [List.drop_append, List.drop_of_length_le (by simp), List.length_replicate, List.drop_replicate, List.nil_append]
    congr 1
    omega
  rw [h1, h2, List.replicate_append_replicate]
theorem copy_filled (v : Int) (n m k g : Nat) (a : Addr) (sLen sCap dCap : Nat) (ty : TypeId) (W : World) (hW : W.heap[g]? = some (.cells (filled v n m) 3 (0, 0))) (hk : k = Nat.min sLen (n - m)) (hm : m ≤ n) (hs : ∀ j, j < k → W.cell? (a.add j) = some (.int .i64 v)) :
    (Builtin.copy_ #[23, 23] ty #[.slice (some ⟨g, m, none⟩) (n - m) dCap, .slice (some a) sLen sCap]).run Try.prog W = .ok (.int .i64 (k : Int)) (W.setRow g (filled v n (m + k))) := by
  have hkn : m + k ≤ n := by rw [hk]; simp only [Nat.min_def]; split <;> omega
  have h := run_copy_row Try.prog W 23 23 ty 3 g m (n - m) dCap a sLen sCap (filled v n m) 3 (List.replicate k (.int .i64 v)) Try.underlying23 (by kernel_rfl) hW (by rw [List.length_replicate, hk])
    (fun j u hj => by
      rw [List.getElem?_replicate] at hj
      split at hj
      · obtain rfl := Option.some.inj hj
        exact hs j (by assumption)
      · cases hj) (by rw [List.length_replicate, filled_size v n m hm]; exact hkn) (fun u hu => by rw [(List.mem_replicate.1 hu).2]; rfl)
  rw [List.length_replicate, filled_put v n m k hkn] at h
  exact h
theorem setRow_grown (W : World) (g : Nat) (cs : Array Value) : W.grownBy (W.setRow g cs) (some g) := ⟨rfl, rfl, rfl, by simp [World.setRow], fun k hk hne => by
  unfold World.setRow
  simp only [Array.getElem?_modify]
  rw [if_neg (fun e => hne (by rw [e]))]⟩
set_option maxRecDepth 100000 in
set_option maxHeartbeats 16000000 in
theorem repeat_calls (a : Addr) (v : Int) (n : Nat) (w : World) (hn : n ≤ 40) (hv : w.cell? a = some (.int .i64 v)) :
    Calls Try.prog 22 #[.slice (some a) 1 1, .int .i64 (n : Int)] w fun e w' => ∃ g, e = .returned (.slice (some ⟨g, 0, none⟩) n n) ∧ w'.heap[g]? = some (.cells (ints (List.replicate n v)) 3 (0, 0)) ∧ w.heap.size ≤ g ∧ Below w.heap.size w w' := by
  have HV := Aside0.mk hv
  have HM := Aside0.mk (mul_n n hn)
  have hmk : ∀ W : World, (Instr.makeSlice 23 (.int .i64 (n : Int)) (.int .i64 (n : Int))).run Try.prog W = .ok (.slice (some ⟨W.heap.size, 0, none⟩) n n) (W.alloc (.cells (madeCells #[.int .i64 0] (n * 1)) 3)) := fun W => by
    obtain ⟨i, h1, h2, h3, h4⟩ := inf3
    have h := run_makeSlice (P := Try.prog) (w := W) 23 3 i (.int .i64 0) Try.underlying23 h1 h2 .i64 .i64 (n : Int) (n : Int) (by omega) (by omega) (by rw [h3]; simp; omega) (by rw [h4]; omega) (by omega)
    rw [h3] at h
    exact h
  have d0 : decide ((n : Int) < 0) = false := decide_eq_false (by omega)
  clear hv
  go_enter Try.func22, Try.ntmps22
  go_upto_region 4 with (first | (go_at_call 30; refine (bits_Mul.calls 1 (n : Int) 0 (n : Int) _ HM.out).mono ?_; rintro e w2 ⟨rfl, hd2⟩; have HD2 := Aside0.mk hd2; clear hd2))
  have d1 : decide ((n : Int) > 9223372036854775807) = false := decide_eq_false (by omega)
  go_upto_region 7 with (fail)
  obtain ⟨g, hg⟩ : ∃ g, w2.heap.size = g := ⟨_, rfl⟩
  obtain ⟨W3, hW3⟩ : ∃ W3, w2.alloc (.cells (madeCells #[.int .i64 0] n) 3) = W3 := ⟨_, rfl⟩
  rw [hW3]
  simp only [hg]
  have h3 : W3.heap[g]? = some (.cells (filled v n 0) 3 (0, 0)) := by
    rw [← hW3, ← hg, made_int v]
    exact hb_new _ _
  have hb3 : Below w.heap.size w W3 := by rw [← hW3]; exact below_alloc HD2.out.below _
  have hv3 : W3.cell? a = some (.int .i64 v) := (hb3.cell (World.block_lt_of_cell? _ _ HV.out)).trans HV.out
  have hgl : w.heap.size ≤ g := by rw [← hg]; exact HD2.out.below.size
  obtain ⟨k, hk⟩ : ∃ k, k = Nat.min 1 n := ⟨_, rfl⟩
  have hkn : k ≤ n ∧ k ≤ 1 ∧ (0 < n → 0 < k) := by rw [hk]; simp only [Nat.min_def]; split <;> omega
  have hcp : ∀ ty, (Builtin.copy_ #[23, 23] ty #[.slice (some ⟨g, 0, none⟩) n n, .slice (some a) 1 1]).run Try.prog W3 = .ok (.int .i64 (k : Int)) (W3.setRow g (filled v n k)) := fun ty => by
    have h := copy_filled v n 0 k g a 1 1 n ty W3 h3 (by rw [hk, Nat.sub_zero]) (by omega) (fun j hj => by
      obtain rfl : j = 0 := by omega
      rw [show a.add 0 = a from by unfold Addr.add; split <;> simp_all]
      exact hv3)
    rw [Nat.sub_zero, Nat.zero_add] at h
    exact h
  clear hk
  go_wp2
  have hbS := hb3.grown (setRow_grown W3 g (filled v n k)) hb3.size (fun q h => by have := Option.some.inj h; omega)
  have HST := Aside0.mk (show (W3.setRow g (filled v n k)).heap[g]? = some (.cells (filled v n k) 3 (0, 0)) ∧ Below w.heap.size w (W3.setRow g (filled v n k)) from ⟨setRow_heap W3 g _ _ 3 (0, 0) h3, hbS⟩)
  have HGL := Aside0.mk hgl
  clear hcp hbS hb3 hv3 hgl h3 hW3 hmk d0 d1
  go_loopg [8] n (fun kq v8 W => ∃ m : Nat, v8 = .int .i64 (m : Int) ∧ n ≤ kq + m ∧ m ≤ n ∧ (0 < n → 0 < m) ∧ Aside0 (W.heap[g]? = some (.cells (filled v n m) 3 (0, 0)) ∧ Below w.heap.size w W))
  case atStart => exact ⟨k, rfl, by omega, hkn.1, hkn.2.2, HST⟩
  case round =>
    obtain ⟨m, rfl, hm, hmn, hm0, hA⟩ := hrel
    by_cases hlt : m < n
    · have c0 : decide ((m : Int) < (n : Int)) = true := decide_eq_true (by omega)
      have c1 : decide (m < n) = true := decide_eq_true hlt
      go_upto_region 9 with (fail)
      clear c0 c1
      obtain ⟨k2, hk2⟩ : ∃ k2, k2 = Nat.min m (n - m) := ⟨_, rfl⟩
      have hk2n : m + k2 ≤ n ∧ 0 < k2 ∧ k2 ≤ m := by
        have := hm0 (by omega)
        rw [hk2]; simp only [Nat.min_def]; split <;> omega
      have hcp : ∀ ty sc dc (X : World), X.heap = wr.heap → (Builtin.copy_ #[23, 23] ty #[.slice (some ⟨g, m, none⟩) (n - m) dc, .slice (some ⟨g, 0, none⟩) m sc]).run Try.prog X = .ok (.int .i64 (k2 : Int)) (X.setRow g (filled v n (m + k2))) := fun ty sc dc X hX => by
        have hX3 := (show X.heap[g]? = wr.heap[g]? by rw [hX]).trans hA.out.1
        refine copy_filled v n m k2 g ⟨g, 0, none⟩ m sc dc ty X hX3 hk2 hmn (fun j hj => ?_)
        rw [show (⟨g, 0, none⟩ : Addr).add j = ⟨g, j, none⟩ from by unfold Addr.add; split <;> simp_all]
        refine (cells_of_blk hX3 j).trans ?_
        rw [← Array.getElem?_toList, filled_list, List.getElem?_append_left (by rw [List.length_replicate]; omega), List.getElem?_replicate, if_pos (by omega)]
      clear hk2
      have q1 : (m : Int) ≤ (n : Int) := by omega
      have q2 : (0 : Int) ≤ (m : Int) := by omega
      have q3 : ((m : Int) ≤ (n : Int)) = True := eq_true q1
      have q4 : (m ≤ n) = True := eq_true hmn
      have q5 : ¬ n = m := by omega
      refine start_ (n := 10) (S := fun X => X.heap = wr.heap) (ds := [7]) #[false, false, false, false, false, false, false, false, false, false] (by kernel_rfl) rfl rfl (rfl) (fun hHeld => ?_)
      refine pure_ (i := 0) (N := some 38) (v := ?_) (a' := ?_) #[true, false, false, false, false, false, false, false, false, false] rfl rfl (by kernel_rfl) (fun _ _ _ h => h) (Or.inl ⟨by rfl, ?_⟩) ?_ ?_
      rotate_left
      · intro w'
        go_simp
        with_reducible rfl
      rotate_left
      · simp only [Act.put, List.setIfInBounds_toArray, List.set_cons_zero, List.set_cons_succ, i64_w, i32_w]
        rfl
      refine pure_ (i := 1) (N := some 39) (v := ?_) (a' := ?_) #[true, true, false, false, false, false, false, false, false, false] rfl rfl (by kernel_rfl) (fun _ _ _ h => h) (Or.inl ⟨by rfl, ?_⟩) ?_ ?_
      rotate_left
      · intro w'
        go_simp
        with_reducible rfl
      rotate_left
      · simp only [Act.put, List.setIfInBounds_toArray, List.set_cons_zero, List.set_cons_succ, i64_w, i32_w]
        rfl
      refine pure_ (i := 2) (N := some 40) (v := ?_) (a' := ?_) #[true, true, true, false, false, false, false, false, false, false] rfl rfl (by kernel_rfl) (fun _ _ _ h => h) (Or.inl ⟨by rfl, ?_⟩) ?_ ?_
      rotate_left
      · intro w'
        go_simp
        with_reducible rfl
      rotate_left
      · simp only [Act.put, List.setIfInBounds_toArray, List.set_cons_zero, List.set_cons_succ, i64_w, i32_w]
        rfl
      refine pure_ (i := 3) (N := some 41) (v := ?_) (a' := ?_) #[true, true, true, true, false, false, false, false, false, false] rfl rfl (by kernel_rfl) (fun _ _ _ h => h) (Or.inl ⟨by rfl, ?_⟩) ?_ ?_
      rotate_left
      · intro w'
        go_simp
        with_reducible rfl
      rotate_left
      · simp only [Act.put, List.setIfInBounds_toArray, List.set_cons_zero, List.set_cons_succ, i64_w, i32_w]
        rfl
      refine pure_ (i := 4) (N := some 42) (v := ?_) (a' := ?_) #[true, true, true, true, true, false, false, false, false, false] rfl rfl (by kernel_rfl) (fun _ _ _ h => h) (Or.inl ⟨by rfl, ?_⟩) ?_ ?_
      rotate_left
      · intro w'
        go_simp
        with_reducible rfl
      rotate_left
      · simp only [Act.put, List.setIfInBounds_toArray, List.set_cons_zero, List.set_cons_succ, i64_w, i32_w]
        rfl
      refine pure_ (i := 5) (N := some 43) (v := ?_) (a' := ?_) #[true, true, true, true, true, true, false, false, false, false] rfl rfl (by kernel_rfl) (fun _ _ _ h => h) (Or.inl ⟨by rfl, ?_⟩) ?_ ?_
      rotate_left
      · intro w'
        go_simp
        with_reducible rfl
      rotate_left
      · simp only [Act.put, List.setIfInBounds_toArray, List.set_cons_zero, List.set_cons_succ, i64_w, i32_w]
        rfl
      refine pure_ (i := 6) (N := some 44) (v := ?_) (a' := ?_) #[true, true, true, true, true, true, true, false, false, false] rfl rfl (by kernel_rfl) (fun _ _ _ h => h) (Or.inl ⟨by rfl, ?_⟩) ?_ ?_
      rotate_left
      · intro w'
        go_simp
        with_reducible rfl
      rotate_left
      · simp only [Act.put, List.setIfInBounds_toArray, List.set_cons_zero, List.set_cons_succ, i64_w, i32_w]
        rfl
      refine last_ (i := 7) (N := some 45) #[true, true, true, true, true, true, true, true, false, false] rfl rfl (by kernel_rfl) (by decide) (fun K hK => ?_)
      refine value_ (v := .int .i64 (k2 : Int)) (w1 := wr.drew.setRow g (filled v n (m + k2))) (by rfl) rfl ?_ ?_
      · have hcp' := fun ty sc dc => hcp ty sc dc wr.drew rfl
        go_simp
      refine hK.out _ _ ?_
      clear hK K hHeld
      refine norm_ (a' := ?_) ?_ ?_
      rotate_left
      · show Act.put _ (some 45) _ = _
        simp only [Act.put, List.setIfInBounds_toArray, List.set_cons_zero, List.set_cons_succ, i64_w, i32_w]
        rfl
      refine pure_ (i := 8) (N := some 46) (v := ?_) (a' := ?_) #[true, true, true, true, true, true, true, true, true, false] rfl rfl (by kernel_rfl) (fun _ _ _ h => h) (Or.inl ⟨by rfl, ?_⟩) ?_ ?_
      rotate_left
      · intro w'
        go_simp
        with_reducible rfl
      rotate_left
      · simp only [Act.put, List.setIfInBounds_toArray, List.set_cons_zero, List.set_cons_succ, i64_w, i32_w]
        rfl
      refine pure_ (i := 9) (N := some 8) (v := ?_) (a' := ?_) #[true, true, true, true, true, true, true, true, true, true] rfl rfl (by kernel_rfl) (fun _ _ _ h => h) (Or.inl ⟨by rfl, ?_⟩) ?_ ?_
      rotate_left
      · intro w'
        go_simp
        with_reducible rfl
      rotate_left
      · simp only [Act.put, List.setIfInBounds_toArray, List.set_cons_zero, List.set_cons_succ, i64_w, i32_w]
        rfl
      refine done_ (by kernel_rfl) ?_
      have hwz : w.heap.size ≤ wr.heap.size := hA.out.2.size
      have HFIN := Aside0.mk (show (wr.drew.setRow g (filled v n (m + k2))).heap[g]? = some (.cells (filled v n (m + k2)) 3 (0, 0)) ∧ Below w.heap.size w (wr.drew.setRow g (filled v n (m + k2))) from
        ⟨setRow_heap wr.drew g _ _ 3 (0, 0) hA.out.1, (below_drew1 hA.out.2).grown (setRow_grown wr.drew g _) hwz (fun q h => by have h1 := Option.some.inj h; have h2 := HGL.out; omega)⟩)
      clear hcp q1 q2 q3 q4 q5
      go_wp2
      go_roundg (n - (m + k2))
      case measure => omega
      case rel => exact ⟨m + k2, by first | rfl | (rw [wrap_id (by omega) (by omega)]; rfl), by omega, hk2n.1, fun _ => by omega, HFIN⟩
    · have c0 : decide ((m : Int) < (n : Int)) = false := decide_eq_false (by omega)
      have c1 : decide (m < n) = false := decide_eq_false hlt
      obtain rfl : m = n := by omega
      have HF := Aside0.mk (show filled v m m = ints (List.replicate m v) by unfold filled; rw [Nat.sub_self, List.replicate_zero, List.append_nil])
      clear hm hm0 hmn hlt
      go_wp2
      go_ret
      exact ⟨g, rfl, by rw [← HF.out]; exact hA.out.1, HGL.out, hA.out.2⟩
end
section
open Go.Lib Go.Shelf Go.Proofs.Ytpkdgdhfhgelbaa.Hand Go.Proofs.Ytpkdgdhfhgelbaa.Aid
attribute [local go_sem] Oper.semAt_some
/-- A place, and what its slot holds when it is asked. -/
abbrev Pl (N : Nat) := { i : Nat // i < N } × Value
def encB (N : Nat) (x : Pl N) : Array Value := #[.int .i64 (x.1.1 : Int), x.2]
/-- What a round leaves as it was: the iterator's box; and the table stays a table of N slots. -/
def KpB (B1 tb N : Nat) (W W' : World) : Prop := W'.heap[B1]? = W.heap[B1]? ∧ ((∃ cs, W.heap[tb]? = some (.cells cs 23 (0, 0)) ∧ cs.size = N) → (∃ cs, W'.heap[tb]? = some (.cells cs 23 (0, 0)) ∧ cs.size = N))
theorem KpB.trans {B1 tb N : Nat} {A B C : World} (h : KpB B1 tb N A B) (k : KpB B1 tb N B C) : KpB B1 tb N A C := ⟨k.1.trans h.1, fun hA => k.2 (h.2 hA)⟩
theorem KpB.of_same {B1 tb N : Nat} {A B : World} (h1 : B.heap[B1]? = A.heap[B1]?) (h2 : B.heap[tb]? = A.heap[tb]?) : KpB B1 tb N A B := ⟨h1, fun ⟨cs, h, e⟩ => ⟨cs, h2.trans h, e⟩⟩
theorem cellv_of {W : World} {B : Nat} {v : Value} {t : Nat} (h : W.heap[B]? = some (.cells #[v] t (0, 0))) : W.cell? ⟨B, 0, none⟩ = some v := by
  simp [World.cell?, h]
set_option maxRecDepth 100000 in
set_option maxHeartbeats 4000000 in
theorem back29_in (F : Fence) (n : Nat) (hf : F.fn 29) (hro : F.round = none) (hn : 1 ≤ n) (l B1 tb : Nat) (N : Nat) (hN : N ≤ 140737488355328) (J Jx : List (Pl N) → World → Prop)
    (hY : ∀ pre (x : Pl N) W, J pre W → pre.length < N → YieldAt F (n - 1) Try.prog l (encB N x) W fun e W' =>
      (e = .returned (.bool true) ∧ J (pre ++ [x]) W' ∧ KpB B1 tb N W W') ∨ (e = .returned (.bool false) ∧ Jx (pre ++ [x]) W'))
    (W : World) (h1 : W.heap[B1]? = some (.cells #[.slice (some ⟨tb, 0, none⟩) N N] 34 (0, 0))) (hT : ∃ cs, W.heap[tb]? = some (.cells cs 23 (0, 0)) ∧ cs.size = N) (h0 : J [] W) :
    CallsIn F n Try.prog 29 #[.func (.yield l) #[] #[], .pointer (some ⟨B1, 0, none⟩)] W fun e W' => (∃ v, e = .returned v) ∧
      ((∃ ys, ys.map (fun x : Pl N => x.1.1) = (List.range N).reverse ∧ J ys W') ∨ (∃ pre, True ∧ Jx pre W')) := by
  have c0 := cellv_of h1
  refine callsIn_of_wp Try.func29 rfl hf ?_ hro
  simp only [Try.ntmps29, List.size_toArray, List.length_cons, List.length_nil, Nat.reduceAdd, Nat.reduceSub, Array.replicate_succ, Array.replicate_zero, List.push_toArray, List.append_toArray, List.nil_append, List.cons_append]
  gi_wp2
  gi_loopw [3] (fun i wr => ∃ (m : Nat) (pre : List (Pl N)), i = .int .i64 ((m : Int) - 1) ∧ m ≤ N ∧ pre.length + m = N ∧ pre.map (fun x : Pl N => x.1.1) ++ (List.range m).reverse = (List.range N).reverse ∧ J pre wr ∧ wr.heap[B1]? = some (.cells #[.slice (some ⟨tb, 0, none⟩) N N] 34 (0, 0)) ∧ ∃ cs, wr.heap[tb]? = some (.cells cs 23 (0, 0)) ∧ cs.size = N)
    (fun i _ => (intOf i + 1).toNat)
  case atStart => exact ⟨N, [], rfl, Nat.le_refl _, by simp, by simp, h0, h1, hT⟩
  case round =>
    obtain ⟨m, pre, rfl, hm, hlen, hcuts, hJs, g1, cs, gT, gS⟩ := hrel
    have c1 := cellv_of g1
    cases m with
    | zero =>
      gi_wp2
      go_end0
      exact ⟨⟨_, rfl⟩, .inl ⟨pre, by simpa using hcuts, hJs⟩⟩
    | succ m =>
      have hmN : m < N := by omega
      have e0 : ((m + 1 : Nat) : Int) - 1 = (m : Int) := by omega
      rw [e0]
      have b1 : decide ((m : Int) ≥ 0) = true := by simp
      have p1 : ((0 : Int) ≤ (m : Int)) = True := eq_true (by omega)
      have p2 : ((m : Int) < (N : Int)) = True := eq_true (by omega)
      have hx0 : wr.cell? ⟨tb, m, none⟩ = some cs[m] := (cells_of_blk gT m).trans (by simp [gS, hmN])
      obtain ⟨u, hu⟩ : ∃ u, cs[m] = u := ⟨_, rfl⟩
      rw [hu] at hx0
      obtain ⟨fn, tmps, assign, body, hy, hR⟩ := hY pre (⟨m, hmN⟩, u) wr hJs (by omega)
      unfold encB at hy
      dsimp only at hy
      gi_wp2
      refine hR.mono ?_
      rintro e W3 (⟨rfl, hJ3, hk3⟩ | ⟨rfl, hJx3⟩)
      · have g13 : W3.heap[B1]? = some (.cells #[.slice (some ⟨tb, 0, none⟩) N N] 34 (0, 0)) := hk3.1.trans g1
        have gC3 := hk3.2 ⟨cs, gT, gS⟩
        gi_wp2
        go_roundw
        case rel => exact ⟨m, pre ++ [(⟨m, hmN⟩, u)], by first | rfl | simp, by omega, by simp; omega, by rw [← hcuts, List.range_succ, List.reverse_append, List.map_append, List.append_assoc]; rfl, hJ3, g13, gC3⟩
        case measure => simp [intOf]
      · gi_wp2
        refine bodyPost_ret (results_none rfl _ _ _) rfl ?_
        exact ⟨⟨_, rfl⟩, .inr ⟨_, trivial, hJx3⟩⟩
theorem back_stops (F : Fence) (n : Nat) (hf : F.fn 29) (hro : F.round = none) (hn : 1 ≤ n) (B1 tb : Nat) (N : Nat) (hN : N ≤ 140737488355328) (w : World)
    (h1 : w.heap[B1]? = some (.cells #[.slice (some ⟨tb, 0, none⟩) N N] 34 (0, 0))) (hT : ∃ cs, w.heap[tb]? = some (.cells cs 23 (0, 0)) ∧ cs.size = N) :
    SeqStopsK F n Try.prog 29 #[.pointer (some ⟨B1, 0, none⟩)] (encB N) (KpB B1 tb N) (fun ys => ys.map (fun x : Pl N => x.1.1) = (List.range N).reverse) (fun _ => True) N w := fun l J Jx W hW hJ _ hY h0 => by
  have l1 : B1 < w.heap.size := (Array.getElem?_eq_some_iff.1 h1).1
  obtain ⟨cs, hc, hs⟩ := hT
  have l2 : tb < w.heap.size := (Array.getElem?_eq_some_iff.1 hc).1
  exact back29_in F n hf hro hn l B1 tb N hN J Jx hY W ((hW.block B1 l1).trans h1) ⟨cs, (hW.block tb l2).trans hc, hs⟩ h0
set_option maxHeartbeats 1000000 in
theorem back_in (F : Fence) (n : Nat) (hf : F.fn 21) (hro : F.round = none) (A : Option Addr) (N c : Nat) (w : World) :
    CallsIn F n Try.prog 21 #[.slice A N c] w fun e w' => e = .returned (.func (.func 29) #[] #[.pointer (some ⟨w.heap.size, 0, none⟩)]) ∧ w' = w.alloc (.cells #[.slice A N c] 34) := by
  refine callsIn_of_wp Try.func21 rfl hf ?_ hro
  simp only [Try.ntmps21, List.size_toArray, List.length_cons, List.length_nil, Nat.reduceAdd, Nat.reduceSub, Array.replicate_succ, Array.replicate_zero, List.push_toArray, List.append_toArray, List.nil_append, List.cons_append]
  gi_wp2
  go_ret
  exact ⟨rfl, rfl⟩
end
section
open Go.Lib Go.Shelf Go.Proofs.Ytpkdgdhfhgelbaa.Hand Go.Proofs.Ytpkdgdhfhgelbaa.Aid
attribute [local go_sem] Oper.semAt_some
/-! ### what the code computes -/
def lowP (a : Int) : Int := if 65 ≤ a ∧ a ≤ 90 then a + 32 else a
def upB (a : Int) : Bool := decide (65 ≤ a) && decide (a ≤ 90)
def foldB (a b : Int) : Bool := lowP a == lowP b
def bestL (prev : Int) : List Int → Int → Int → Int → Int × Int
  | [], _, s, o => (s, o)
  | x :: t, i, s, o =>
    let n := if x ≠ -1 ∧ prev ≥ 0 ∧ i = prev + 1 then x + 3 else x
    if n > s then bestL prev t (i + 1) n i else bestL prev t (i + 1) s o
/-- The best place of a row behind prev (prev = q - 1). -/
def bestP (row : List Int) (q : Nat) : Int × Int := bestL ((q : Int) - 1) (row.drop q) (q : Int) (-1) (-1)
def startB (nm : ByteArray) (o : Nat) : Bool := decide (o = 0) || ((bt nm ((o : Int) - 1) == 95) || (upB (bt nm (o : Int)) && !upB (bt nm ((o : Int) - 1))))
def pointP (b : Int) (nm : ByteArray) (o : Nat) : Int := 1 + (if b = bt nm (o : Int) then 1 else 0) + (if startB nm o = true then 4 else 0)
def restP (t : List Int) (r : List Int) (o : Nat) : Int := if t = [] then 0 else (bestP r (o + 1)).1
def cellP (nm : ByteArray) (b : Int) (t : List Int) (r : List Int) (o : Nat) : Int := if foldB b (bt nm (o : Int)) = true ∧ restP t r o ≠ -1 then pointP b nm o + restP t r o else -1
def sufRow (nm : ByteArray) : List Int → List Int
  | [] => []
  | b :: t => (List.range nm.size).map (cellP nm b t (sufRow nm t))
def bytesP (p : ByteArray) : List Int := (List.range p.size).map (fun j : Nat => bt p (j : Int))
/-- Row j of the table. -/
def rowP (p nm : ByteArray) (j : Nat) : List Int := sufRow nm ((bytesP p).drop j)
theorem bytes_len (p : ByteArray) : (bytesP p).length = p.size := by unfold bytesP; simp
theorem bt_bound (s : ByteArray) (i : Int) : 0 ≤ bt s i ∧ bt s i ≤ 255 := by
  unfold bt
  split
  · have := (s[i.toNat]'(by assumption)).toNat_lt
    omega
  · omega
theorem lower_eq (a : Int) (h0 : 0 ≤ a) (h1 : a ≤ 255) : fuzzy_lower.f a = some (lowP a) := by
  unfold fuzzy_lower.f fuzzy_isUpper.f lowP
  by_cases c : a ≥ 65
  · rw [if_pos c]
    by_cases d : a ≤ 90
    · rw [if_pos ⟨c, d⟩]
      simp [d]
      omega
    · rw [if_neg (fun h => d h.2)]
      simp [d]
  · rw [if_neg c, if_neg (fun h => c h.1)]
    simp
theorem fold_eq (a b : Int) (h0 : 0 ≤ a ∧ a ≤ 255) (h1 : 0 ≤ b ∧ b ≤ 255) : fuzzy_EqualFold.f a b = some (foldB a b) := by
  unfold fuzzy_EqualFold.f
  rw [lower_eq a h0.1 h0.2, lower_eq b h1.1 h1.2]
  rfl
theorem up_eq (a : Int) : fuzzy_isUpper.f a = some (upB a) := by
  unfold fuzzy_isUpper.f upB
  by_cases c : a ≥ 65
  · rw [if_pos c, decide_eq_true c]; rfl
  · rw [if_neg c, decide_eq_false c]; rfl
theorem starts_eq (nm : ByteArray) (o : Nat) (h : o < nm.size) (hs : nm.size ≤ 1000000) : fuzzy_startsWord.f nm (o : Int) = some (startB nm o) := by
  unfold fuzzy_startsWord.f startB
  by_cases c : o = 0
  · subst c; simp
  · have hw : wrap64 ((o : Int) - 1) = (o : Int) - 1 := wrap_id (by omega) (by omega)
    rw [if_neg (by omega), hw, if_pos (by omega), if_pos (by omega), decide_eq_false c]
    by_cases d : bt nm ((o : Int) - 1) = 95
    · rw [if_pos d]; simp [d]
    · rw [if_neg d, if_pos (by omega), if_pos (by omega), up_eq, up_eq]
      have d' : (bt nm ((o : Int) - 1) == 95) = false := by simpa using d
      rw [d']
      cases upB (bt nm (o : Int)) <;> simp
theorem points_eq (b : Int) (nm : ByteArray) (o : Nat) (h : o < nm.size) (hs : nm.size ≤ 1000000) : fuzzy_points.f b nm (o : Int) = some (pointP b nm o) := by
  unfold fuzzy_points.f pointP
  rw [if_pos (by omega), if_pos (by omega), starts_eq nm o h hs]
  by_cases c : b = bt nm (o : Int)
  · rw [if_pos c, if_pos c]
    cases startB nm o <;> simp
  · rw [if_neg c, if_neg c]
    cases startB nm o <;> simp
theorem point_bound (b : Int) (nm : ByteArray) (o : Nat) : 1 ≤ pointP b nm o ∧ pointP b nm o ≤ 6 := by
  unfold pointP
  split <;> split <;> omega
theorem bestL_bound (prev : Int) (M : Int) (hM : -1 ≤ M) : ∀ (l : List Int) (i s o : Int), (∀ x ∈ l, -1 ≤ x ∧ x ≤ M) → -1 ≤ s → s ≤ M + 3 → -1 ≤ (bestL prev l i s o).1 ∧ (bestL prev l i s o).1 ≤ M + 3
  | [], i, s, o, _, h1, h2 => ⟨h1, h2⟩
  | x :: t, i, s, o, h, h1, h2 => by
    have hx := h x List.mem_cons_self
    have ht : ∀ y ∈ t, -1 ≤ y ∧ y ≤ M := fun y hy => h y (List.mem_cons_of_mem _ hy)
    obtain ⟨n, hn⟩ : ∃ n, n = (if x ≠ -1 ∧ prev ≥ 0 ∧ i = prev + 1 then x + 3 else x) := ⟨_, rfl⟩
    have hnb : -1 ≤ n ∧ n ≤ M + 3 := by rw [hn]; split <;> omega
    have hu : bestL prev (x :: t) i s o = if n > s then bestL prev t (i + 1) n i else bestL prev t (i + 1) s o := by rw [hn]; rfl
    rw [hu]
    split
    · exact bestL_bound prev M hM t _ _ _ ht hnb.1 hnb.2
    · exact bestL_bound prev M hM t _ _ _ ht h1 h2
theorem sufRow_bound (nm : ByteArray) : ∀ (l : List Int) (x : Int), x ∈ sufRow nm l → -1 ≤ x ∧ x ≤ 9 * (l.length : Int)
  | [], x, h => by cases h
  | b :: t, x, h => by
    unfold sufRow at h
    obtain ⟨o, ho, rfl⟩ := List.mem_map.1 h
    have hp := point_bound b nm o
    have hr : -1 ≤ restP t (sufRow nm t) o ∧ restP t (sufRow nm t) o ≤ 9 * (t.length : Int) + 3 := by
      unfold restP
      split
      · omega
      · exact bestL_bound _ (9 * (t.length : Int)) (by omega) _ _ _ _ (fun y hy => sufRow_bound nm t y (List.mem_of_mem_drop hy)) (by omega) (by omega)
    unfold cellP
    rw [List.length_cons]
    split
    · have := ‹_ ∧ _›.2
      omega
    · omega
theorem sufRow_len (nm : ByteArray) (b : Int) (t : List Int) : (sufRow nm (b :: t)).length = nm.size := by unfold sufRow; simp
theorem best_l0 (row : List Int) (hl : row.length < 1000000) (q : Nat) (hq : q < 1000000) (hb : ∀ x ∈ row, -1 ≤ x ∧ x ≤ 1000000) : ∀ (t : List Int) (i : Nat) (s o : Int), row.drop i = t → -1 ≤ s → s ≤ 1000003 → Ev (fun k => fuzzy_best.l0 k row ((q : Int) - 1) s o (i : Int)) (bestL ((q : Int) - 1) t (i : Int) s o)
  | [], i, s, o, h, h1, h2 => by
    have hi : row.length ≤ i := by simpa using h
    exact Ev.some' (fun k => by simp only [fuzzy_best.l0]; rw [if_neg (by omega)]; rfl)
  | x :: t, i, s, o, h, h1, h2 => by
    have hil : i < row.length := by
      rcases Nat.lt_or_ge i row.length with h3 | h3
      · exact h3
      · rw [List.drop_eq_nil_of_le h3] at h; cases h
    have hc := h
    rw [List.drop_eq_getElem_cons hil] at hc
    injection hc with hc1 hc2
    have hx : rd row (i : Int) = x := by unfold rd; rw [Int.toNat_natCast, List.getD_eq_getElem?_getD, List.getElem?_eq_getElem hil]; exact hc1
    have hxb := hb x (by rw [← hc1]; exact List.getElem_mem hil)
    have hw : wrap64 ((i : Int) + 1) = ((i + 1 : Nat) : Int) := by rw [wrap_id (by omega) (by omega)]; rfl
    have ih := fun s' o' h1' h2' => best_l0 row hl q hq hb t (i + 1) s' o' hc2 h1' h2'
    obtain ⟨n, hn⟩ : ∃ n, n = (if x ≠ -1 ∧ (q : Int) - 1 ≥ 0 ∧ (i : Int) = (q : Int) - 1 + 1 then x + 3 else x) := ⟨_, rfl⟩
    have hnb : -1 ≤ n ∧ n ≤ 1000003 := by rw [hn]; split <;> omega
    have hu : bestL ((q : Int) - 1) (x :: t) (i : Int) s o = if n > s then bestL ((q : Int) - 1) t ((i + 1 : Nat) : Int) n (i : Int) else bestL ((q : Int) - 1) t ((i + 1 : Nat) : Int) s o := by
      rw [hn]; rfl
    rw [hu]
    have hgo : Ev (fun k => if n > s then fuzzy_best.l0 k row ((q : Int) - 1) n (i : Int) ((i + 1 : Nat) : Int) else fuzzy_best.l0 k row ((q : Int) - 1) s o ((i + 1 : Nat) : Int)) (if n > s then bestL ((q : Int) - 1) t ((i + 1 : Nat) : Int) n (i : Int) else bestL ((q : Int) - 1) t ((i + 1 : Nat) : Int) s o) := by
      by_cases c : n > s
      · rw [if_pos c]
        exact Ev.pos c (ih n i hnb.1 hnb.2)
      · rw [if_neg c]
        exact Ev.neg c (ih s o h1 h2)
    have hj : ∀ bo : Bool, n = (if bo = true then x + 3 else x) → Ev (fun k => fuzzy_best.j1 k row ((q : Int) - 1) s o (i : Int) x bo) (if n > s then bestL ((q : Int) - 1) t ((i + 1 : Nat) : Int) n (i : Int) else bestL ((q : Int) - 1) t ((i + 1 : Nat) : Int) s o) := fun bo hbo => by
      refine Ev.stepK hgo (fun k => ?_)
      simp only [fuzzy_best.j1]
      cases bo with
      | true =>
        rw [if_pos rfl] at hbo ⊢
        rw [wrap_id (n := x + 3) (by omega) (by omega), hw, hbo]
      | false =>
        rw [if_neg (by simp)] at hbo ⊢
        rw [hw, hbo]
    have hd : (i : Int) < (row.length : Int) := by omega
    by_cases c1 : x = -1
    · refine Ev.stepK (hj false ?_) (fun k => by simp only [fuzzy_best.l0]; rw [if_pos hd, if_pos (by omega), hx, if_pos c1])
      rw [hn, if_neg (fun h => h.1 c1)]; rfl
    · by_cases c2 : (q : Int) - 1 ≥ 0
      · refine Ev.stepK (hj ((i : Int) == wrap64 ((q : Int) - 1 + 1)) ?_) (fun k => by simp only [fuzzy_best.l0]; rw [if_pos hd, if_pos (by omega), hx, if_neg c1, if_pos c2])
        rw [wrap_id (by omega) (by omega), hn]
        by_cases c3 : (i : Int) = (q : Int) - 1 + 1
        · rw [if_pos ⟨c1, c2, c3⟩, if_pos (by simpa using c3)]
        · rw [if_neg (fun h => c3 h.2.2), if_neg (by simpa using c3)]
      · refine Ev.stepK (hj false ?_) (fun k => by simp only [fuzzy_best.l0]; rw [if_pos hd, if_pos (by omega), hx, if_neg c1, if_neg c2])
        rw [hn, if_neg (fun h => c2 h.2.1)]; rfl
theorem best_ev (row : List Int) (hl : row.length < 1000000) (q : Nat) (hq : q < 1000000) (hb : ∀ x ∈ row, -1 ≤ x ∧ x ≤ 1000000) : Ev (fun k => fuzzy_best.f k row ((q : Int) - 1)) (bestP row q) := by
  refine Ev.same (best_l0 row hl q hq hb _ q (-1) (-1) rfl (by omega) (by omega)) (fun k => ?_)
  unfold fuzzy_best.f
  rw [wrap_id (by omega) (by omega), show (q : Int) - 1 + 1 = (q : Int) by omega]
theorem C_ints {W : World} {k : Nat} {xs : List Int} (h : W.heap[k]? = some (.cells (ints xs) 3 (0, 0))) (hl : xs.length ≤ 1000000) : Kd.C (Kd.int .i64) W (some ⟨k, 0, none⟩) xs.length xs := by
  refine ⟨rfl, by omega, fun hn => ⟨_, rfl, fun j p hp => ⟨[.int .i64 p], rfl, rfl, fun i u hu => ?_⟩⟩⟩
  cases i with
  | zero =>
    obtain rfl := Option.some.inj hu
    rw [show (⟨k, 0, none⟩ : Addr).add (j * (Kd.int .i64).sz + 0) = ⟨k, j, none⟩ from by
      show (⟨k, 0, none⟩ : Addr).add (j * 1 + 0) = ⟨k, j, none⟩
      unfold Addr.add; split <;> simp_all]
    refine (cells_of_blk h j).trans ?_
    unfold ints
    simp [hp]
  | succ i => simp at hu
/-! ### the table -/
/-- A row's place of pattern byte i, out of the row behind it. -/
def cellS (p nm : ByteArray) (i : Nat) (nx : Option (List Int)) (o : Nat) : Int :=
  let rest := if i + 1 < p.size then (bestP (nx.getD []) (o + 1)).1 else 0
  if foldB (bt p (i : Int)) (bt nm (o : Int)) = true ∧ rest ≠ -1 then pointP (bt p (i : Int)) nm o + rest else -1
def stepS (p nm : ByteArray) (st : Nat → Option (List Int)) (i : Nat) : Nat → Option (List Int) := fun j => if j = i then some ((List.range nm.size).map (cellS p nm i (st (i + 1)))) else st j
def stOf {N : Nat} (p nm : ByteArray) (pre : List (Pl N)) : Nat → Option (List Int) := pre.foldl (fun st x => stepS p nm st x.1.1) (fun _ => none)
theorem stOf_snoc {N : Nat} (p nm : ByteArray) (pre : List (Pl N)) (x : Pl N) : stOf p nm (pre ++ [x]) = stepS p nm (stOf p nm pre) x.1.1 := by unfold stOf; rw [List.foldl_append]; rfl
/-- Rows are as long as the name, their values small. -/
def okS (p nm : ByteArray) (st : Nat → Option (List Int)) : Prop := ∀ j row, st j = some row → j < p.size ∧ row.length = nm.size ∧ ∀ x ∈ row, -1 ≤ x ∧ x ≤ 9 * ((p.size : Int) - (j : Int))
theorem cellS_bound (p nm : ByteArray) (i o : Nat) (nx : Option (List Int)) (hi : i < p.size) (h : ∀ row, nx = some row → ∀ x ∈ row, -1 ≤ x ∧ x ≤ 9 * ((p.size : Int) - ((i + 1 : Nat) : Int))) : -1 ≤ cellS p nm i nx o ∧ cellS p nm i nx o ≤ 9 * ((p.size : Int) - (i : Int)) := by
  have hp := point_bound (bt p (i : Int)) nm o
  obtain ⟨rest, hr⟩ : ∃ rest, rest = (if i + 1 < p.size then (bestP (nx.getD []) (o + 1)).1 else 0) := ⟨_, rfl⟩
  have hb : -1 ≤ rest ∧ rest ≤ 9 * ((p.size : Int) - ((i + 1 : Nat) : Int)) + 3 := by
    rw [hr]
    split
    · refine bestL_bound _ _ (by omega) _ _ _ _ (fun y hy => ?_) (by omega) (by omega)
      have hy2 := List.mem_of_mem_drop hy
      cases nx with
      | none => cases hy2
      | some row => exact h row rfl y hy2
    · omega
  unfold cellS
  rw [← hr]
  simp only
  split
  · have := ‹_ ∧ _›.2
    omega
  · omega
theorem okS.step {p nm : ByteArray} {st : Nat → Option (List Int)} (h : okS p nm st) (i : Nat) (hi : i < p.size) : okS p nm (stepS p nm st i) := by
  intro j row hj
  unfold stepS at hj
  split at hj
  case isTrue hji =>
    subst hji
    obtain rfl := Option.some.inj hj
    refine ⟨hi, by simp, fun x hx => ?_⟩
    obtain ⟨o, ho, rfl⟩ := List.mem_map.1 hx
    exact cellS_bound p nm _ o _ hi (fun row hr => (h _ row hr).2.2)
  case isFalse => exact h j row hj
theorem okS.of {N : Nat} (p nm : ByteArray) (hN : N = p.size) : ∀ (pre : List (Pl N)) (st : Nat → Option (List Int)), okS p nm st → okS p nm (pre.foldl (fun st x => stepS p nm st x.1.1) st)
  | [], st, h => h
  | x :: t, st, h => okS.of p nm hN t _ (h.step x.1.1 (by have := x.1.2; omega))
theorem okS_of {N : Nat} (p nm : ByteArray) (hN : N = p.size) (pre : List (Pl N)) : okS p nm (stOf p nm pre) := okS.of p nm hN pre _ (fun j row h => by cases h)
def slotV (n : Nat) (g : Nat → Nat) (st : Nat → Option (List Int)) (j : Nat) : Value := if (st j).isSome = true then .slice (some ⟨g j, 0, none⟩) n n else .slice none 0 0
def tabA (N n : Nat) (g : Nat → Nat) (st : Nat → Option (List Int)) : Array Value := ((List.range N).map (slotV n g st)).toArray
theorem tabA_get (N n : Nat) (g : Nat → Nat) (st : Nat → Option (List Int)) (j : Nat) (h : j < N) : (tabA N n g st)[j]? = some (slotV n g st j) := by
  unfold tabA
  simp [List.getElem?_map, List.getElem?_range h]
theorem tabA_size (N n : Nat) (g : Nat → Nat) (st : Nat → Option (List Int)) : (tabA N n g st).size = N := by unfold tabA; simp
theorem tabA_put (p nm : ByteArray) (N n : Nat) (g : Nat → Nat) (st : Nat → Option (List Int)) (i gb : Nat) (h : i < N) : (tabA N n g st).setIfInBounds i (.slice (some ⟨gb, 0, none⟩) n n) = tabA N n (fun j => if j = i then gb else g j) (stepS p nm st i) := by
  apply Array.ext_getElem?
  intro k
  rw [Array.getElem?_setIfInBounds]
  by_cases c : i = k
  · subst c
    rw [if_pos rfl, if_pos (by rw [tabA_size]; exact h), tabA_get _ _ _ _ _ h]
    unfold slotV
    rw [show stepS p nm st i i = some ((List.range nm.size).map (cellS p nm i (st (i + 1)))) from if_pos rfl]
    simp
  · rw [if_neg c]
    rcases Nat.lt_or_ge k N with h2 | h2
    · rw [tabA_get _ _ _ _ _ h2, tabA_get _ _ _ _ _ h2]
      unfold slotV
      rw [show stepS p nm st i k = st k from if_neg (fun e => c e.symm)]
      simp only [show (k = i) = False from eq_false (fun e => c e.symm), if_false]
    · rw [Array.getElem?_eq_none (by rw [tabA_size]; exact h2), Array.getElem?_eq_none (by rw [tabA_size]; exact h2)]
/-- The table: its filled rows are st's. -/
def TabS (W : World) (tb base N n : Nat) (st : Nat → Option (List Int)) : Prop :=
  ∃ g : Nat → Nat, W.heap[tb]? = some (.cells (tabA N n g st) 23 (0, 0)) ∧ ∀ j row, st j = some row → base ≤ g j ∧ W.heap[g j]? = some (.cells (ints row) 3 (0, 0))
structure SufI (w W0 : World) (b : Nat) (p nm : ByteArray) (st : Nat → Option (List Int)) (W : World) : Prop where
  bp : W.heap[b]? = some (.cells #[.string p] 9 (0, 0))
  bn : W.heap[b + 1]? = some (.cells #[.string nm] 9 (0, 0))
  bt : W.heap[b + 3]? = some (.cells #[.slice (some ⟨b + 2, 0, none⟩) p.size p.size] 34 (0, 0))
  bi : W.heap[b + 4]? = W0.heap[b + 4]?
  tab : TabS W (b + 2) (b + 5) p.size nm.size st
  bel : Below b w W
  size : W0.heap.size ≤ W.heap.size
theorem SufI.keep {w W0 W W' : World} {b : Nat} {p nm : ByteArray} {st : Nat → Option (List Int)} (h : SufI w W0 b p nm st W) (hb : Below b W W') (hs : W.heap.size ≤ W'.heap.size) (h4 : W'.heap[b + 4]? = W.heap[b + 4]?)
    (hk : ∀ (k : Nat) (cs : Array Value) (t : TypeId), W.heap[k]? = some (Obj.cells cs t (0, 0)) → W'.heap[k]? = W.heap[k]?) : SufI w W0 b p nm st W' := by
  obtain ⟨g, h1, h2⟩ := h.tab
  exact ⟨(hk _ _ _ h.bp).trans h.bp, (hk _ _ _ h.bn).trans h.bn, (hk _ _ _ h.bt).trans h.bt, h4.trans h.bi, ⟨g, (hk _ _ _ h1).trans h1, fun j row h3 => ⟨(h2 j row h3).1, (hk _ _ _ (h2 j row h3).2).trans (h2 j row h3).2⟩⟩, h.bel.trans hb, Nat.le_trans h.size hs⟩
theorem SufI.own {N : Nat} {w W0 : World} {b : Nat} {p nm : ByteArray} (hW0 : W0.heap.size = b + 5) : OwnFrom W0.heap.size (fun (pre : List (Pl N)) W => SufI w W0 b p nm (stOf p nm pre) W) := by
  intro pre W W' row hs hg hr
  have hsz := hs.size
  refine hs.keep ⟨hg.os, hg.tape, hg.output, hg.size, fun k hk => hg.block k (by omega) (fun e => by have := (hr k e.symm).1; omega)⟩ hg.size (hg.block _ (by omega) (fun e => by have := (hr _ e.symm).1; omega)) (fun k cs t hk => hg.block k (Array.getElem?_eq_some_iff.1 hk).1 (fun e => ?_))
  obtain ⟨_, o, ho, hc⟩ := hr k e.symm
  rw [hk] at ho
  injection ho with ho
  subst ho
  cases hc
theorem slotV_none (n : Nat) (g : Nat → Nat) (j : Nat) : slotV n g (fun _ => none) j = .slice none 0 0 := rfl
/-- Within a round: the row of place i is being filled. -/
structure RowS (W : World) (b i gb : Nat) (p nm : ByteArray) (g : Nat → Nat) (st : Nat → Option (List Int)) (cs : List Int) (X : World) : Prop where
  bp : X.heap[b]? = some (.cells #[.string p] 9 (0, 0))
  bn : X.heap[b + 1]? = some (.cells #[.string nm] 9 (0, 0))
  bt : X.heap[b + 3]? = some (.cells #[.slice (some ⟨b + 2, 0, none⟩) p.size p.size] 34 (0, 0))
  bi : X.heap[b + 4]? = W.heap[b + 4]?
  tb : X.heap[b + 2]? = some (.cells (tabA p.size nm.size (fun j => if j = i then gb else g j) (stepS p nm st i)) 23 (0, 0))
  row : X.heap[gb]? = some (.cells (ints cs) 3 (0, 0))
  old : ∀ j row, st j = some row → X.heap[g j]? = some (.cells (ints row) 3 (0, 0))
  bel : Below b W X
  size : W.heap.size ≤ X.heap.size
  ko : KeepsOthers W X
theorem RowS.draw {W X X' : World} {b i gb : Nat} {p nm : ByteArray} {g : Nat → Nat} {st : Nat → Option (List Int)} {cs : List Int} (h : RowS W b i gb p nm g st cs X) (hb : Below b W X') (hX : X'.heap = X.heap) : RowS W b i gb p nm g st cs X' := by
  have e : ∀ k : Nat, X'.heap[k]? = X.heap[k]? := fun k => by rw [hX]
  exact ⟨(e _).trans h.bp, (e _).trans h.bn, (e _).trans h.bt, (e _).trans h.bi, (e _).trans h.tb, (e _).trans h.row, fun j row hj => (e _).trans (h.old j row hj), hb, by rw [hX]; exact h.size, ⟨by rw [hX]; exact h.size, fun k o hk ho => (e k).trans (h.ko.same k o hk ho)⟩⟩
theorem RowS.drawn {W X X' : World} {b i gb : Nat} {p nm : ByteArray} {g : Nat → Nat} {st : Nat → Option (List Int)} {cs : List Int} (h : RowS W b i gb p nm g st cs X) (hbW : b ≤ W.heap.size) (hd : Drawn0 X X') : RowS W b i gb p nm g st cs X' := by
  have hb := h.bel.trans (hd.below.mono (Nat.le_trans hbW h.size))
  obtain ⟨n, rfl⟩ := hd.out
  exact h.draw hb rfl
theorem ints_set (cs : List Int) (o : Nat) (v : Int) : (ints cs).setIfInBounds o (.int .i64 v) = ints (cs.set o v) := by
  unfold ints
  apply Array.ext'
  simp [List.map_set]
theorem RowS.put {W X : World} {b i gb : Nat} {p nm : ByteArray} {g : Nat → Nat} {st : Nat → Option (List Int)} {cs : List Int} (h : RowS W b i gb p nm g st cs X) (hgb : b + 5 ≤ gb) (hg : ∀ j row, st j = some row → g j ≠ gb) (o : Nat) (v : Int) : RowS W b i gb p nm g st (cs.set o v) (X.setCell ⟨gb, o, none⟩ (.int .i64 v)) := by
  have e : ∀ k : Nat, k ≠ gb → (X.setCell ⟨gb, o, none⟩ (.int .i64 v)).heap[k]? = X.heap[k]? := fun k hk => Below.heap_setCell _ _ _ _ hk
  refine ⟨(e _ (by omega)).trans h.bp, (e _ (by omega)).trans h.bn, (e _ (by omega)).trans h.bt, (e _ (by omega)).trans h.bi, (e _ (by omega)).trans h.tb, ?_, fun j row hj => (e _ (hg j row hj)).trans (h.old j row hj), h.bel.setCell (p := ⟨gb, o, none⟩) (by show b ≤ gb; omega) _, by simpa using h.size, h.ko.trans (KeepsOthers.setCell _ _ _)⟩
  have := hb_set h.row o (.int .i64 v)
  rw [ints_set] at this
  exact this
/-- The row when o places are filled. -/
def partS (p nm : ByteArray) (i : Nat) (nx : Option (List Int)) (o : Nat) : List Int := ((List.range nm.size).map (cellS p nm i nx)).take o ++ List.replicate (nm.size - o) (-1)
theorem partS_put (p nm : ByteArray) (i : Nat) (nx : Option (List Int)) (o : Nat) (h : o < nm.size) : (partS p nm i nx o).set o (cellS p nm i nx o) = partS p nm i nx (o + 1) := by
  unfold partS
  have hl : (((List.range nm.size).map (cellS p nm i nx)).take o).length = o := by rw [List.length_take, List.length_map, List.length_range]; omega
  have hr : List.replicate (nm.size - o) (-1 : Int) = -1 :: List.replicate (nm.size - (o + 1)) (-1) := by
    rw [show nm.size - o = (nm.size - (o + 1)) + 1 by omega, List.replicate_succ]
  rw [hr, List.set_append_right _ _ (by omega), hl, Nat.sub_self, List.set_cons_zero, List.take_succ_eq_append_getElem (by simpa using h)]
  simp
theorem partS_skip (p nm : ByteArray) (i : Nat) (nx : Option (List Int)) (o : Nat) (h : o < nm.size) (hc : cellS p nm i nx o = -1) : partS p nm i nx o = partS p nm i nx (o + 1) := by
  rw [← partS_put p nm i nx o h, hc]
  unfold partS
  have hl : (((List.range nm.size).map (cellS p nm i nx)).take o).length = o := by rw [List.length_take, List.length_map, List.length_range]; omega
  have hr : List.replicate (nm.size - o) (-1 : Int) = -1 :: List.replicate (nm.size - (o + 1)) (-1) := by
    rw [show nm.size - o = (nm.size - (o + 1)) + 1 by omega, List.replicate_succ]
  rw [hr, List.set_append_right _ _ (by omega), hl, Nat.sub_self, List.set_cons_zero]
theorem partS_len (p nm : ByteArray) (i : Nat) (nx : Option (List Int)) (o : Nat) (h : o ≤ nm.size) : (partS p nm i nx o).length = nm.size := by
  unfold partS
  rw [List.length_append, List.length_take, List.length_map, List.length_range, List.length_replicate]
  omega
theorem bytes_drop (p : ByteArray) (m : Nat) (h : m < p.size) : (bytesP p).drop m = bt p (m : Int) :: (bytesP p).drop (m + 1) := by
  rw [List.drop_eq_getElem_cons (by rw [bytes_len]; exact h)]
  congr 1
  unfold bytesP
  simp
theorem row_eq (p nm : ByteArray) (m : Nat) (h : m < p.size) : (List.range nm.size).map (cellS p nm m (if m + 1 < p.size then some (rowP p nm (m + 1)) else none)) = rowP p nm m := by
  unfold rowP
  rw [bytes_drop p m h]
  show _ = (List.range nm.size).map (cellP nm (bt p (m : Int)) ((bytesP p).drop (m + 1)) (sufRow nm ((bytesP p).drop (m + 1))))
  refine List.map_congr_left (fun o _ => ?_)
  unfold cellS cellP restP
  by_cases c : m + 1 < p.size
  · have hne : (bytesP p).drop (m + 1) ≠ [] := fun e => by
      have := congrArg List.length e
      rw [List.length_drop, bytes_len] at this
      simp at this
      omega
    rw [if_pos c, if_pos c, if_neg hne]
    rfl
  · have he : (bytesP p).drop (m + 1) = [] := List.drop_eq_nil_of_le (by rw [bytes_len]; omega)
    simp [c, he]
theorem st_all (p nm : ByteArray) : ∀ m, m ≤ p.size → (List.range m).reverse.foldl (stepS p nm) (fun j => if m ≤ j ∧ j < p.size then some (rowP p nm j) else none) = fun j => if j < p.size then some (rowP p nm j) else none
  | 0, _ => by
    funext j
    simp
  | m + 1, h => by
    rw [List.range_succ, List.reverse_append, List.reverse_singleton, List.singleton_append, List.foldl_cons, ← st_all p nm m (by omega)]
    congr 1
    funext j
    unfold stepS
    by_cases c : j = m
    · subst c
      rw [if_pos rfl, if_pos ⟨Nat.le_refl _, h⟩]
      congr 1
      rw [← row_eq p nm j h]
      congr 2
      show (if j + 1 ≤ j + 1 ∧ j + 1 < p.size then some (rowP p nm (j + 1)) else none) = (if j + 1 < p.size then some (rowP p nm (j + 1)) else none)
      by_cases d : j + 1 < p.size
      · rw [if_pos ⟨Nat.le_refl _, d⟩, if_pos d]
      · rw [if_neg (fun e => d e.2), if_neg d]
    · rw [if_neg c]
      show (if m + 1 ≤ j ∧ j < p.size then some (rowP p nm j) else none) = (if m ≤ j ∧ j < p.size then some (rowP p nm j) else none)
      by_cases d : m + 1 ≤ j ∧ j < p.size
      · rw [if_pos d, if_pos ⟨by omega, d.2⟩]
      · rw [if_neg d, if_neg (fun e => d ⟨by omega, e.2⟩)]
theorem stOf_all {N : Nat} (p nm : ByteArray) (ys : List (Pl N)) (h : ys.map (fun x : Pl N => x.1.1) = (List.range p.size).reverse) : stOf p nm ys = fun j => if j < p.size then some (rowP p nm j) else none := by
  have e : stOf p nm ys = (ys.map (fun x : Pl N => x.1.1)).foldl (stepS p nm) (fun _ => none) := by unfold stOf; rw [List.foldl_map]
  rw [e, h, ← st_all p nm p.size (Nat.le_refl _)]
  congr 1
  funext j
  rw [if_neg (fun h => by omega)]
theorem inf23 : ∃ i, Try.prog.info? 23 = some i ∧ i.zero = some (.slice none 0 0) ∧ i.size = 1 ∧ i.bytes = 24 := ⟨_, rfl, by kernel_rfl, by kernel_rfl, by kernel_rfl⟩
theorem made_nil (N n : Nat) (g : Nat → Nat) : madeCells #[.slice none 0 0] N = tabA N n g (fun _ => none) := by
  unfold tabA
  apply Array.ext'
  rw [List.toList_toArray]
  apply List.ext_getElem
  · simp [madeCells]
  · intro i h1 h2
    simp [madeCells, Nat.mod_one, slotV]
set_option maxHeartbeats 16000000 in
set_option maxRecDepth 100000 in
theorem suffix_calls (p nm : ByteArray) (w : World) (hp : p.size ≤ 30) (hn : nm.size ≤ 30) :
    Calls Try.prog 11 #[.string p, .string nm] w fun e w' => ∃ tb, e = .returned (.slice (some ⟨tb, 0, none⟩) p.size p.size) ∧ TabS w' tb w.heap.size p.size nm.size (fun j => if j < p.size then some (rowP p nm j) else none) ∧ Below w.heap.size w w' := by
  have hmk : ∀ W : World, (Instr.makeSlice 34 (.int .i64 (p.size : Int)) (.int .i64 (p.size : Int))).run Try.prog W = .ok (.slice (some ⟨W.heap.size, 0, none⟩) p.size p.size) (W.alloc (.cells (madeCells #[.slice none 0 0] (p.size * 1)) 23)) := fun W => by
    obtain ⟨i, h1, h2, h3, h4⟩ := inf23
    have h := run_makeSlice (P := Try.prog) (w := W) 34 23 i (.slice none 0 0) Try.underlying34 h1 h2 .i64 .i64 (p.size : Int) (p.size : Int) (by omega) (by omega) (by rw [h3]; simp; omega) (by rw [h4]; omega) (by omega)
    rw [h3] at h
    exact h
  have HP := Aside0.mk hp
  have HN := Aside0.mk hn
  clear hp hn
  refine (callsIn_wide (n := 9)).1 (callsIn_of_wp_marks Try.func11 rfl trivial ?_ rfl)
  refine wpIn_wide.2 ?_
  simp only [Try.ntmps11, List.size_toArray, List.length_cons, List.length_nil, Nat.reduceAdd, Nat.reduceSub, Array.replicate_succ, Array.replicate_zero, List.push_toArray, List.append_toArray, List.nil_append, List.cons_append]
  go_upto_region 2 with (fail)
  obtain ⟨b, hb⟩ : ∃ b, w.heap.size = b := ⟨_, rfl⟩
  simp only [hb, show b + 1 + 1 + 1 = b + 3 from rfl, show b + 1 + 1 = b + 2 from rfl]
  obtain ⟨W1, hW1⟩ : ∃ W1, (((w.alloc (.cells #[.string p] 9)).alloc (.cells #[.string nm] 9)).alloc (.cells (madeCells #[.slice none 0 0] p.size) 23)).alloc (.cells #[.slice (some ⟨b + 2, 0, none⟩) p.size p.size] 34) = W1 := ⟨_, rfl⟩
  rw [hW1]
  have hz1 : W1.heap.size = b + 4 := by rw [← hW1, ← hb]; simp
  have hb1 : Below b w W1 := by rw [← hW1, ← hb]; exact below_alloc (below_alloc (below_alloc (below_alloc (Below.refl _ _) _) _) _) _
  have h1p : W1.heap[b]? = some (.cells #[.string p] 9 (0, 0)) := by rw [← hW1, ← hb]; exact hb_alloc (hb_alloc (hb_alloc (hb_new _ _)))
  have h1n : W1.heap[b + 1]? = some (.cells #[.string nm] 9 (0, 0)) := by
    have := hb_new (w.alloc (.cells #[.string p] 9)) (.cells #[.string nm] 9)
    rw [World.size_alloc, hb] at this
    rw [← hW1]
    exact hb_alloc (hb_alloc this)
  have h1t : W1.heap[b + 2]? = some (.cells (madeCells #[.slice none 0 0] p.size) 23 (0, 0)) := by
    have := hb_new ((w.alloc (.cells #[.string p] 9)).alloc (.cells #[.string nm] 9)) (.cells (madeCells #[.slice none 0 0] p.size) 23)
    rw [World.size_alloc, World.size_alloc, hb] at this
    rw [← hW1]
    exact hb_alloc this
  have h1b : W1.heap[b + 3]? = some (.cells #[.slice (some ⟨b + 2, 0, none⟩) p.size p.size] 34 (0, 0)) := by
    have := hb_new (((w.alloc (.cells #[.string p] 9)).alloc (.cells #[.string nm] 9)).alloc (.cells (madeCells #[.slice none 0 0] p.size) 23)) (.cells #[.slice (some ⟨b + 2, 0, none⟩) p.size p.size] 34)
    rw [World.size_alloc, World.size_alloc, World.size_alloc, hb] at this
    rw [← hW1]
    exact this
  clear hW1 hmk
  have z5 := cellv_of h1b
  have HBK := Aside0.mk (callsIn_wide.1 (back_in Fence.wide 9 trivial rfl (some ⟨b + 2, 0, none⟩) p.size p.size W1))
  go_wp2_with (go_at_call 21; refine HBK.out.mono ?_; rintro e' w10 ⟨rfl, rfl⟩)
  try simp only [hz1]
  obtain ⟨W0, hW0⟩ : ∃ W0, W1.alloc (.cells #[.slice (some ⟨b + 2, 0, none⟩) p.size p.size] 34) = W0 := ⟨_, rfl⟩
  have hb10 : Below W1.heap.size W1 W0 := by rw [← hW0]; exact below_alloc (Below.refl _ _) _
  have hz0 : W0.heap.size = b + 5 := by rw [← hW0, World.size_alloc, hz1]
  have h04 : W0.heap[b + 4]? = some (.cells #[.slice (some ⟨b + 2, 0, none⟩) p.size p.size] 34 (0, 0)) := by rw [← hW0, ← hz1]; exact hb_new _ _
  rw [hW0]
  clear hW0 z5 HBK
  have hI0 : SufI w W0 b p nm (stOf p nm ([] : List (Pl p.size))) W0 :=
    ⟨(hb10.block _ (by omega)).trans h1p, (hb10.block _ (by omega)).trans h1n, (hb10.block _ (by omega)).trans h1b, rfl,
      ⟨fun _ => 0, ((hb10.block _ (by omega)).trans h1t).trans (by rw [made_nil p.size nm.size (fun _ => 0)]; rfl), fun j row h => by cases h⟩, hb1.trans (hb10.mono (by omega)), Nat.le_refl _⟩
  have hT0 : ∃ cs, W0.heap[b + 2]? = some (.cells cs 23 (0, 0)) ∧ cs.size = p.size := ⟨_, (hb10.block _ (by omega)).trans h1t, by simp [madeCells]⟩
  clear h1p h1n h1t h1b hb1 hb10
  refine (wpIn_wide (n := 9)).1 ?_
  refine wpIn_rangeFunc_ownH rfl (by omega) (gf := 29) (lb := #[.pointer (some ⟨b + 4, 0, none⟩)]) rfl trivial (enters_of Try.func29 (by kernel_rfl) rfl)
    (back_stops Fence.wide (9 - 1) trivial rfl (by omega) (b + 4) (b + 2) p.size (by have := HP.out; omega) W0 h04 hT0) KpB.trans ?kb (Below.refl _ _) (fun _ => rfl)
    (fun pre W => SufI w W0 b p nm (stOf p nm pre) W) (fun _ _ _ => False) (SufI.own hz0) (fun _ _ _ _ _ hs _ _ => hs) hI0
    (fun x a' W => a' = { tmps := #[.string p, .string nm, .pointer (some ⟨b, 0, none⟩), .pointer (some ⟨b + 1, 0, none⟩), .slice none 0 0, .pointer (some ⟨b + 3, 0, none⟩), .int .i64 (x.1.1 : Int), undef, undef, .string p, .int .i64 (p.size : Int), .slice (some ⟨b + 2, 0, none⟩) p.size p.size, .slice (some ⟨b + 2, 0, none⟩) p.size p.size, .func (.func 29) #[] #[.pointer (some ⟨b + 4, 0, none⟩)], .int .i64 (x.1.1 : Int), x.2, undef, undef, undef, undef, undef, undef, undef, undef, undef, undef, undef, undef, undef, undef, undef, undef, undef, undef, undef, undef, undef, undef, undef, undef, undef, undef, undef, undef, undef, undef, undef, undef, undef, undef, undef, undef, undef, undef, undef, undef, undef, undef, undef, undef, undef, undef, undef, undef, undef, undef, undef, undef, undef], defers := [] })
    (fun x a' _ X Y row hs hg hr => hs)
    ?assign ?body ?done ?stop
  case kb =>
    intro W l o o' hl ho _ _
    exact KpB.of_same (World.putObj_heap_other (by omega)) (World.putObj_heap_other (by omega))
  case assign =>
    intro l pre x W K hI hK
    unfold encB
    gi_wp2
    exact hK _ _ (KeepsFrom.refl _ _) (KpB.of_same rfl rfl) hI rfl
  case body =>
    rintro l pre x a' W hl _ hI rfl hlen
    have hmx : Try.prog.follows .mixedOrders = true := by kernel_rfl
    obtain ⟨⟨⟨i, hiN⟩, xv⟩, hxe⟩ : ∃ y : Pl p.size, y = x := ⟨x, rfl⟩
    subst hxe
    have HOK := Aside0.mk (okS_of p nm rfl pre)
    have HNX := Aside0.mk (show stOf p nm (pre ++ [(⟨i, hiN⟩, xv)]) = stepS p nm (stOf p nm pre) i from stOf_snoc p nm pre _)
    obtain ⟨st, hst⟩ : ∃ st, stOf p nm pre = st := ⟨_, rfl⟩
    rw [hst] at hI HOK HNX
    clear hst
    have HI := Aside0.mk hI
    obtain ⟨g, hg1, hg2⟩ := hI.tab
    have HG1 := Aside0.mk hg1
    have HG2 := Aside0.mk hg2
    have hsW : b + 5 ≤ W.heap.size := by have := hI.size; omega
    have x5 := cell_of_blk hI.bt
    have x3 := cell_of_blk hI.bn
    have hn30 := HN.out
    clear hI hg1 hg2
    gi_upto_region 4 with (fail)
    refine region_round hmx (fun j o hj c e => ?_) (by rintro ⟨a', w', h'⟩; exact h') (wpAny_of_last (S := fun X => X.cell? ⟨b + 3, 0, none⟩ = some (.slice (some ⟨b + 2, 0, none⟩) p.size p.size) ∧ X.cell? ⟨b + 1, 0, none⟩ = some (.string nm)) (ds := [7]) _ _ _ _ ?_)
    · have hm := Array.mem_of_getElem? hj
      simp at hm
      rcases hm with rfl | rfl | rfl | rfl | rfl | rfl | rfl | rfl <;> cases e
    have hHeld := (show W.drew.cell? ⟨b + 3, 0, none⟩ = some (.slice (some ⟨b + 2, 0, none⟩) p.size p.size) ∧ W.drew.cell? ⟨b + 1, 0, none⟩ = some (.string nm) from ⟨x5, x3⟩)
    refine take_ (i := 0) (N := some 16) (v := ?_) (a' := ?_) #[true, false, false, false, false, false, false, false] rfl rfl (by kernel_rfl) (fun _ _ _ h => h) (Or.inl ⟨by rfl, ?_⟩) hHeld ?_ ?_
    rotate_left
    · rintro w' ⟨s0_, s1_⟩
      go_simp
      with_reducible rfl
    rotate_left
    · simp only [Act.put, List.setIfInBounds_toArray, List.set_cons_zero, List.set_cons_succ, i64_w, i32_w]
      rfl
    refine pure_ (i := 1) (N := some 17) (v := ?_) (a' := ?_) #[true, true, false, false, false, false, false, false] rfl rfl (by kernel_rfl) (fun _ _ _ h => h) (Or.inl ⟨by rfl, ?_⟩) ?_ ?_
    rotate_left
    · intro w'
      go_simp
      with_reducible rfl
    rotate_left
    · simp only [Act.put, List.setIfInBounds_toArray, List.set_cons_zero, List.set_cons_succ, i64_w, i32_w]
      rfl
    refine take_ (i := 3) (N := some 19) (v := ?_) (a' := ?_) #[true, true, false, true, false, false, false, false] rfl rfl (by kernel_rfl) (fun _ _ _ h => h) (Or.inl ⟨by rfl, ?_⟩) hHeld ?_ ?_
    rotate_left
    · rintro w' ⟨s0_, s1_⟩
      go_simp
      with_reducible rfl
    rotate_left
    · simp only [Act.put, List.setIfInBounds_toArray, List.set_cons_zero, List.set_cons_succ, i64_w, i32_w]
      rfl
    refine pure_ (i := 4) (N := some 20) (v := ?_) (a' := ?_) #[true, true, false, true, true, false, false, false] rfl rfl (by kernel_rfl) (fun _ _ _ h => h) (Or.inl ⟨by rfl, ?_⟩) ?_ ?_
    rotate_left
    · intro w'
      go_simp
      with_reducible rfl
    rotate_left
    · simp only [Act.put, List.setIfInBounds_toArray, List.set_cons_zero, List.set_cons_succ, i64_w, i32_w]
      rfl
    refine one_ (i := 2) (N := some 18) #[true, true, true, true, true, false, false, false] rfl rfl (by kernel_rfl) (by decide) (fun K hK => ?_)
    refine value_ (v := .slice (some ⟨W.heap.size, 0, none⟩) 1 1) (w1 := W.drew.alloc (.cells #[.int .i64 (-1)] 3)) (by rfl) rfl ?_ ?_
    · go_simp
    obtain ⟨W2, hW2⟩ : ∃ W2, W.drew.alloc (.cells #[.int .i64 (-1)] 3) = W2 := ⟨_, rfl⟩
    have hb2 : Below W.heap.size W W2 := by rw [← hW2]; exact below_alloc (below_drew1 (Below.refl _ _)) _
    have hk2 : W2.heap[W.heap.size]? = some (.cells #[.int .i64 (-1)] 3 (0, 0)) := by rw [← hW2]; exact hb_new W.drew _
    rw [hW2]
    clear hW2
    have y5 := (hb2.cell (World.block_lt_of_cell? _ _ x5)).trans x5
    have y3 := (hb2.cell (World.block_lt_of_cell? _ _ x3)).trans x3
    refine hK.out _ _ (⟨y5, y3⟩) (fun hHeld => ?_)
    clear hK K
    refine norm_ (a' := ?_) ?_ ?_
    rotate_left
    · show Act.put _ (some 18) _ = _
      simp only [Act.put, List.setIfInBounds_toArray, List.set_cons_zero, List.set_cons_succ, i64_w, i32_w]
      rfl
    refine one_ (i := 5) (N := some 21) #[true, true, true, true, true, true, false, false] rfl rfl (by kernel_rfl) (by decide) (fun K hK => ?_)
    refine goes_ Try.func22 (by kernel_rfl) rfl #[.slice (some ⟨W.heap.size, 0, none⟩) 1 1, .int .i64 (nm.size : Int)] (by rfl) rfl rfl (by (try simp only [List.map_toArray, List.map_cons, List.map_nil]); first | done | rfl) ?_
    refine (repeat_calls ⟨W.heap.size, 0, none⟩ (-1) nm.size W2 (by omega) ((cells_of_blk hk2 0).trans rfl)).mono ?_
    rintro e w3 ⟨gb, rfl, hgb, hgl, hb3⟩
    refine ⟨_, rfl, ?_⟩
    have hb13 : Below W.heap.size W w3 := hb2.trans (hb3.mono hb2.size)
    have z5 := (hb3.cell (World.block_lt_of_cell? _ _ y5)).trans y5
    have z3 := (hb3.cell (World.block_lt_of_cell? _ _ y3)).trans y3
    refine hK.out _ _ (⟨z5, z3⟩) (fun hHeld => ?_)
    clear hK K
    refine norm_ (a' := ?_) ?_ ?_
    rotate_left
    · show Act.put _ (some 21) _ = _
      simp only [Act.put, List.setIfInBounds_toArray, List.set_cons_zero, List.set_cons_succ, i64_w, i32_w]
      rfl
    have r0 := eq_true (show (0 : Int) ≤ (i : Int) by omega)
    have r1 := eq_true (show (i : Int) < (p.size : Int) by omega)
    have r2 := eq_true hiN
    refine pure_ (i := 6) (N := some 22) (v := ?_) (a' := ?_) #[true, true, true, true, true, true, true, false] rfl rfl (by kernel_rfl) (fun _ _ _ h => h) (Or.inl ⟨by rfl, ?_⟩) ?_ ?_
    rotate_left
    · intro w'
      go_simp
      with_reducible rfl
    rotate_left
    · simp only [Act.put, List.setIfInBounds_toArray, List.set_cons_zero, List.set_cons_succ, i64_w, i32_w]
      rfl
    refine last_ (i := 7) (N := none) #[true, true, true, true, true, true, true, true] rfl rfl (by kernel_rfl) (by decide) (fun K hK => ?_)
    have hg3 := (hb13.block _ (lt_of_blk HG1.out)).trans HG1.out
    have hc3 : w3.cell? ⟨b + 2, i, none⟩ = some (slotV nm.size g st i) := (cells_of_blk hg3 i).trans (tabA_get _ _ _ _ _ hiN)
    have hf3 : w3.frozen? ⟨b + 2, i, none⟩ = false := free_of_blk hg3 i
    refine skip_ (w1 := w3.setCell ⟨b + 2, i, none⟩ (.slice (some ⟨gb, 0, none⟩) nm.size nm.size)) (by rfl) rfl ?_ ?_
    · go_simp
    refine hK.out _ _ (done_ (by kernel_rfl) ?_)
    clear hK K hHeld r0 r1 r2
    have hbw : b ≤ W.heap.size := by omega
    have hgw : W.heap.size ≤ gb := Nat.le_trans hb2.size hgl
    have hI := HI.out
    have e3 : ∀ k : Nat, k ≠ b + 2 → (w3.setCell ⟨b + 2, i, none⟩ (.slice (some ⟨gb, 0, none⟩) nm.size nm.size)).heap[k]? = w3.heap[k]? := fun k hk => Below.heap_setCell _ _ _ _ hk
    have hRS : RowS W b i gb p nm g st (partS p nm i (st (i + 1)) 0) (w3.setCell ⟨b + 2, i, none⟩ (.slice (some ⟨gb, 0, none⟩) nm.size nm.size)) := by
      refine ⟨(e3 _ (by omega)).trans ((hb13.block _ (by omega)).trans hI.bp), (e3 _ (by omega)).trans ((hb13.block _ (by omega)).trans hI.bn), (e3 _ (by omega)).trans ((hb13.block _ (by omega)).trans hI.bt), (e3 _ (by omega)).trans (hb13.block _ (by omega)), ?_, ?_, fun j row hj => ?_, (hb13.mono hbw).setCell (p := ⟨b + 2, i, none⟩) (by show b ≤ b + 2; omega) _, by have := hb13.size; simpa using this, KeepsOthers.trans ⟨hb13.size, fun k o hk ho => (hb13.block k (Array.getElem?_eq_some_iff.1 hk).1).trans hk⟩ (KeepsOthers.setCell _ _ _)⟩
      · have := hb_set hg3 i (.slice (some ⟨gb, 0, none⟩) nm.size nm.size)
        rw [tabA_put p nm _ _ _ _ _ _ hiN] at this
        exact this
      · refine (e3 _ (by omega)).trans (hgb.trans ?_)
        unfold partS
        rw [List.take_zero, List.nil_append, Nat.sub_zero]
      · have h5 := HG2.out j row hj
        exact (e3 _ (by omega)).trans ((hb13.block _ (lt_of_blk h5.2)).trans h5.2)
    have HGN := Aside0.mk (show ∀ j row, st j = some row → g j ≠ gb from fun j row hj => by
      have h5 := HG2.out j row hj
      have h6 := lt_of_blk h5.2
      omega)
    have HRS := Aside0.mk hRS
    obtain ⟨W4, hW4⟩ : ∃ W4, w3.setCell ⟨b + 2, i, none⟩ (.slice (some ⟨gb, 0, none⟩) nm.size nm.size) = W4 := ⟨_, rfl⟩
    rw [hW4] at HRS ⊢
    have q3 := cell_of_blk HRS.out.bn
    have HGW := Aside0.mk (And.intro hbw hgw)
    clear hRS hW4 e3 hI hg3 hc3 hf3 hgb hgl hb2 hb3 hb13 y5 y3 z5 z3 x5 x3 hk2 hbw hgw
    gi_wp2
    clear q3
    gi_loopw [25] (fun v wr => ∃ o : Nat, v = .int .i64 (o : Int) ∧ o ≤ nm.size ∧ Aside0 (RowS W b i gb p nm g st (partS p nm i (st (i + 1)) o) wr)) (fun v _ => nm.size - (intOf v).toNat)
    case atStart => exact ⟨0, rfl, by omega, HRS⟩
    case round =>
      obtain ⟨o, rfl, ho, hR⟩ := hrel
      by_cases c : o < nm.size
      · have c0 : ((o : Int) < (nm.size : Int)) = True := eq_true (by omega)
        have c1 : decide ((o : Int) < (nm.size : Int)) = true := decide_eq_true (by omega)
        have c2 : decide (o < nm.size) = true := decide_eq_true c
        have xp := cell_of_blk hR.out.bp
        have xn := cell_of_blk hR.out.bn
        have xt := cell_of_blk hR.out.bt
        have xr := hR.out
        gi_upto_region 8 with (fail)
        clear xr
        have r0 := eq_true (show (0 : Int) ≤ (i : Int) by omega)
        have r1 := eq_true (show (i : Int) < (p.size : Int) by omega)
        have r2 := eq_true hiN
        have r3 := eq_true (show (0 : Int) ≤ (o : Int) by omega)
        have r4 := eq_true c
        clear c1 c2
        refine region_round hmx (fun j o hj c e => ?_) (by rintro ⟨a', w', h'⟩; exact h') (wpAny_of_last (S := fun X => X.cell? ⟨b, 0, none⟩ = some (.string p) ∧ X.cell? ⟨b + 1, 0, none⟩ = some (.string nm)) (ds := [6]) _ _ _ _ ?_)
        · have hm := Array.mem_of_getElem? hj
          simp at hm
          rcases hm with rfl | rfl | rfl | rfl | rfl | rfl | rfl | rfl <;> cases e
        have hHeld := (show wr.drew.cell? ⟨b, 0, none⟩ = some (.string p) ∧ wr.drew.cell? ⟨b + 1, 0, none⟩ = some (.string nm) from ⟨xp, xn⟩)
        refine take_ (i := 0) (N := some 28) (v := ?_) (a' := ?_) #[true, false, false, false, false, false, false, false] rfl rfl (by kernel_rfl) (fun _ _ _ h => h) (Or.inl ⟨by rfl, ?_⟩) hHeld ?_ ?_
        rotate_left
        · rintro w' ⟨s0_, s1_⟩
          go_simp
          with_reducible rfl
        rotate_left
        · simp only [Act.put, List.setIfInBounds_toArray, List.set_cons_zero, List.set_cons_succ, i64_w, i32_w]
          rfl
        refine pure_ (i := 1) (N := some 29) (v := ?_) (a' := ?_) #[true, true, false, false, false, false, false, false] rfl rfl (by kernel_rfl) (fun _ _ _ h => h) (Or.inl ⟨by rfl, ?_⟩) ?_ ?_
        rotate_left
        · intro w'
          go_simp
          with_reducible rfl
        rotate_left
        · simp only [Act.put, List.setIfInBounds_toArray, List.set_cons_zero, List.set_cons_succ, i64_w, i32_w]
          rfl
        refine pure_ (i := 2) (N := some 30) (v := .int .u8 (bt p (i : Int))) (a' := ?anew) #[true, true, true, false, false, false, false, false] rfl rfl (by kernel_rfl) (fun _ _ _ h => h) (Or.inl ⟨by rfl, ?arun⟩) ?aput ?arest
        case aput =>
          simp only [Act.put, List.setIfInBounds_toArray, List.set_cons_zero, List.set_cons_succ, i64_w, i32_w]
          rfl
        case arun =>
          intro w'
          go_simp
          (try simp only [bt, Int.toNat_natCast, dif_pos hiN, dif_pos c])
          (try rfl)
        refine take_ (i := 3) (N := some 31) (v := ?_) (a' := ?_) #[true, true, true, true, false, false, false, false] rfl rfl (by kernel_rfl) (fun _ _ _ h => h) (Or.inl ⟨by rfl, ?_⟩) hHeld ?_ ?_
        rotate_left
        · rintro w' ⟨s0_, s1_⟩
          go_simp
          with_reducible rfl
        rotate_left
        · simp only [Act.put, List.setIfInBounds_toArray, List.set_cons_zero, List.set_cons_succ, i64_w, i32_w]
          rfl
        refine pure_ (i := 4) (N := some 32) (v := ?_) (a' := ?_) #[true, true, true, true, true, false, false, false] rfl rfl (by kernel_rfl) (fun _ _ _ h => h) (Or.inl ⟨by rfl, ?_⟩) ?_ ?_
        rotate_left
        · intro w'
          go_simp
          with_reducible rfl
        rotate_left
        · simp only [Act.put, List.setIfInBounds_toArray, List.set_cons_zero, List.set_cons_succ, i64_w, i32_w]
          rfl
        refine pure_ (i := 5) (N := some 33) (v := .int .u8 (bt nm (o : Int))) (a' := ?anew5) #[true, true, true, true, true, true, false, false] rfl rfl (by kernel_rfl) (fun _ _ _ h => h) (Or.inl ⟨by rfl, ?arun5⟩) ?aput5 ?arest5
        case aput5 =>
          simp only [Act.put, List.setIfInBounds_toArray, List.set_cons_zero, List.set_cons_succ, i64_w, i32_w]
          rfl
        case arun5 =>
          intro w'
          go_simp
          (try simp only [bt, Int.toNat_natCast, dif_pos hiN, dif_pos c])
          (try rfl)
        refine last_ (i := 6) (N := some 34) #[true, true, true, true, true, true, true, false] rfl rfl (by kernel_rfl) (by decide) (fun K hK => ?_)
        have hbp := bt_bound p (i : Int)
        have hbn := bt_bound nm (o : Int)
        refine goes_ Try.func9 (by kernel_rfl) rfl #[.int .u8 (bt p (i : Int)), .int .u8 (bt nm (o : Int))] (by rfl) rfl rfl (by (try simp only [List.map_toArray, List.map_cons, List.map_nil]); first | done | rfl) ?_
        refine (fuzzy_EqualFold.calls _ _ _ wr.drew (fold_eq _ _ hbp hbn)).mono ?_
        rintro e w5 ⟨rfl, hd5⟩
        refine ⟨_, rfl, ?_⟩
        refine hK.out _ _ ?_
        clear hK K hHeld
        refine norm_ (a' := ?_) ?_ ?_
        rotate_left
        · show Act.put _ (some 34) _ = _
          simp only [Act.put, List.setIfInBounds_toArray, List.set_cons_zero, List.set_cons_succ, i64_w, i32_w]
          rfl
        refine pure_ (i := 7) (N := some 35) (v := ?_) (a' := ?_) #[true, true, true, true, true, true, true, true] rfl rfl (by kernel_rfl) (fun _ _ _ h => h) (Or.inl ⟨by rfl, ?_⟩) ?_ ?_
        rotate_left
        · intro w'
          go_simp
          with_reducible rfl
        rotate_left
        · simp only [Act.put, List.setIfInBounds_toArray, List.set_cons_zero, List.set_cons_succ, i64_w, i32_w]
          rfl
        refine done_ (by kernel_rfl) ?_
        have HR5 := Aside0.mk ((hR.out.draw (X' := wr.drew) ((hR.out.bel.trans (below_drew1 (Below.refl _ wr) |>.mono (Nat.le_trans HGW.out.1 hR.out.size)))) rfl).drawn HGW.out.1 hd5)
        clear hd5 xp xn xt hR c0 r0 r1 r2 r3 r4 hbp hbn
        have HC := Aside0.mk c
        clear c ho
        obtain ⟨fo, hfo⟩ : ∃ fo, foldB (bt p (i : Int)) (bt nm (o : Int)) = fo := ⟨_, rfl⟩
        have HFO := Aside0.mk hfo
        rw [hfo]
        clear hfo
        cases fo with
        | false =>
          have HSK := Aside0.mk (partS_skip p nm i (st (i + 1)) o HC.out (by unfold cellS; rw [HFO.out]; simp))
          have hol : o + 1 ≤ 9223372036854775807 := by have := HC.out; omega
          gi_wp2
          go_roundw
          case rel => exact ⟨o + 1, by first | rfl | simp, HC.out, ⟨by rw [← HSK.out]; exact HR5.out⟩⟩
          case measure => have := HC.out; simp [intOf]; omega
        | true =>
          have xp := cell_of_blk HR5.out.bp
          obtain ⟨i1, hi1e⟩ : ∃ i1, i1 = i + 1 := ⟨_, rfl⟩
          have HWI := Aside0.mk (show wrap64 ((i : Int) + 1) = (i1 : Int) by rw [hi1e, wrap_id (by have := HP.out; omega) (by have := HP.out; omega)]; rfl)
          have HI1 := Aside0.mk hi1e
          clear hi1e
          have wi1 := HWI.out
          gi_upto_if 40 with (fail)
          clear xp wi1
          simp only [HWI.out, Bool.not_true]
          obtain ⟨row2, hrow2⟩ : ∃ row2, row2 = (st (i + 1)).getD [] := ⟨_, rfl⟩
          obtain ⟨rest, hrest⟩ : ∃ rest, rest = (if i + 1 < p.size then (bestP row2 (o + 1)).1 else 0) := ⟨_, rfl⟩
          have HREST := Aside0.mk hrest
          have HROW2 := Aside0.mk hrow2
          clear hrow2
          gi_cut [8, 40] from 69 (fun v8 v40 wc => v8 = .int .i64 rest ∧ Aside0 (RowS W b i gb p nm g st (partS p nm i (st (i + 1)) o) wc))
          case first =>
            by_cases hi1 : i1 < p.size
            · rw [← HI1.out, if_pos hi1] at hrest
              have d1 : decide ((i1 : Int) < (p.size : Int)) = true := decide_eq_true (by omega)
              have d2 : decide (i1 < p.size) = true := decide_eq_true hi1
              have xt := cell_of_blk HR5.out.bt
              have hsl : ∃ A2 c2, slotV nm.size (fun j => if j = i then gb else g j) (stepS p nm st i) i1 = .slice A2 row2.length c2 ∧ row2.length ≤ c2 ∧ Kd.C (Kd.int .i64) w5 A2 row2.length row2 ∧ row2.length < 1000000 ∧ ∀ x ∈ row2, -1 ≤ x ∧ x ≤ 1000000 := by
                rw [HI1.out]
                unfold slotV
                rw [show stepS p nm st i (i + 1) = st (i + 1) from if_neg (Nat.succ_ne_self i), HROW2.out]
                cases hsi : st (i + 1) with
                | none => exact ⟨none, 0, rfl, Nat.le_refl _, Kd.C_nil _ _, by simp, fun x hx => by cases hx⟩
                | some row =>
                  have hok := HOK.out _ _ hsi
                  have hold := HR5.out.old _ _ hsi
                  refine ⟨some ⟨g (i + 1), 0, none⟩, nm.size, ?_, ?_, C_ints hold (by show row.length ≤ 1000000; rw [hok.2.1]; omega), ?_, fun x hx => ?_⟩
                  · show (if (some row).isSome = true then Value.slice (some ⟨(if i + 1 = i then gb else g (i + 1)), 0, none⟩) nm.size nm.size else _) = Value.slice (some ⟨g (i + 1), 0, none⟩) row.length nm.size
                    rw [if_pos (show (some row).isSome = true from rfl), if_neg (Nat.succ_ne_self i), hok.2.1]
                  · show row.length ≤ nm.size
                    rw [hok.2.1]; exact Nat.le_refl _
                  · show row.length < 1000000
                    rw [hok.2.1]; omega
                  · have h7 := hok.2.2 x hx
                    have h8 := HP.out
                    omega
              obtain ⟨A2, c2, hs1, hs2, hs3, hs4, hs5⟩ := hsl
              obtain ⟨kk, hkk⟩ := Ev.rounds (best_ev row2 hs4 (o + 1) (by have := HC.out; omega) hs5)
              rw [show ((o + 1 : Nat) : Int) - 1 = (o : Int) by omega] at hkk
              have xs1 : w5.cell? ⟨b + 2, i1, none⟩ = some (.slice A2 row2.length c2) := by rw [← hs1]; exact (cells_of_blk HR5.out.tb i1).trans (tabA_get _ _ _ _ _ hi1)
              have HBE := Aside0.mk (fuzzy_best.calls kk A2 c2 row2 (o : Int) (bestP row2 (o + 1)).1 (bestP row2 (o + 1)).2 w5 hs3 hs2 (by rw [hkk]))
              rw [← hrest] at HBE
              have s0 := eq_true (show (0 : Int) ≤ (i1 : Int) by omega)
              have s1 := eq_true (show (i1 : Int) < (p.size : Int) by omega)
              have s2 := eq_true hi1
              clear hs1 hs2 hs3 hs4 hs5 hkk hrest
              have wi1 := HWI.out
              gi_wp2_with (refine ⟨trivial, ?_⟩; gi_at_call 12; refine (CallsIn.inRound l (callsIn_wide.2 HBE.out)).mono ?_; rintro e w6 ⟨rfl, hd6⟩; have HD6 := Aside0.mk hd6; clear hd6)
              gi_meet
              case rel => exact ⟨rfl, ⟨HR5.out.drawn HGW.out.1 HD6.out⟩⟩
            · rw [← HI1.out, if_neg hi1] at hrest
              have d1 : decide ((i1 : Int) < (p.size : Int)) = false := decide_eq_false (by omega)
              have d2 : decide (i1 < p.size) = false := decide_eq_false hi1
              have wi1 := HWI.out
              gi_wp2
              gi_meet
              case rel => exact ⟨by rw [hrest], HR5⟩
          case rest =>
            obtain ⟨rfl, hRc⟩ := hcut
            have hcv : cellS p nm i (st (i + 1)) o = if rest ≠ -1 then pointP (bt p (i : Int)) nm o + rest else -1 := by
              unfold cellS
              rw [← HROW2.out, ← HREST.out, HFO.out]
              simp
            by_cases hr1 : rest = -1
            · have HSK := Aside0.mk (partS_skip p nm i (st (i + 1)) o HC.out (by rw [hcv, if_neg (fun h => h hr1)]))
              have d1 : (rest != -1) = false := by rw [hr1]; rfl
              have hol : o + 1 ≤ 9223372036854775807 := by have := HC.out; omega
              clear hcv hrest
              gi_wp2
              go_roundw
              case rel => exact ⟨o + 1, by first | rfl | simp, HC.out, ⟨by rw [← HSK.out]; exact hRc.out⟩⟩
              case measure => have := HC.out; simp [intOf]; omega
            · rw [if_pos hr1] at hcv
              have d1 : (rest != -1) = true := bne_iff_ne.2 hr1
              have HCV := Aside0.mk hcv
              have hcb := cellS_bound p nm i o (st (i + 1)) hiN (fun row hr => (HOK.out _ row hr).2.2)
              rw [hcv] at hcb
              have hpt := point_bound (bt p (i : Int)) nm o
              obtain ⟨pt, hpte⟩ : ∃ pt, pointP (bt p (i : Int)) nm o = pt := ⟨_, rfl⟩
              have HPT := Aside0.mk hpte
              rw [hpte] at HCV hcb hpt
              have hwC : wrap64 (pt + rest) = pt + rest := wrap_id (by omega) (by have := HP.out; omega)
              obtain ⟨C, hCe⟩ : ∃ C, pt + rest = C := ⟨_, rfl⟩
              rw [hCe] at HCV
              have HWC := Aside0.mk (hwC.trans hCe)
              clear hcv hrest hcb hpt hpte hwC hCe
              gi_upto_region 13 with (fail)
              have xt := cell_of_blk hRc.out.bt
              have xp := cell_of_blk hRc.out.bp
              have xn := cell_of_blk hRc.out.bn
              have xs : wc.cell? ⟨b + 2, i, none⟩ = some (.slice (some ⟨gb, 0, none⟩) nm.size nm.size) := (cells_of_blk hRc.out.tb i).trans ((tabA_get _ _ _ _ _ hiN).trans (by
                unfold slotV
                rw [show stepS p nm st i i = some ((List.range nm.size).map (cellS p nm i (st (i + 1)))) from if_pos rfl]
                simp))
              have r0 := eq_true (show (0 : Int) ≤ (i : Int) by omega)
              have r1 := eq_true (show (i : Int) < (p.size : Int) by omega)
              have r2 := eq_true hiN
              have r3 := eq_true (show (0 : Int) ≤ (o : Int) by omega)
              have r4 := eq_true HC.out
              have r5 := eq_true (show (o : Int) < (nm.size : Int) by have := HC.out; omega)
              clear d1
              refine region_round hmx (fun j o hj c e => ?_) (by rintro ⟨a', w', h'⟩; exact h') (wpAny_of_last (S := fun X => X.cell? ⟨b + 3, 0, none⟩ = some (.slice (some ⟨b + 2, 0, none⟩) p.size p.size) ∧ X.cell? ⟨b + 2, i, none⟩ = some (.slice (some ⟨gb, 0, none⟩) nm.size nm.size) ∧ X.cell? ⟨b, 0, none⟩ = some (.string p) ∧ X.cell? ⟨b + 1, 0, none⟩ = some (.string nm)) (ds := [14]) _ _ _ _ ?_)
              · have hm := Array.mem_of_getElem? hj
                simp at hm
                rcases hm with rfl | rfl | rfl | rfl | rfl | rfl | rfl | rfl | rfl | rfl | rfl | rfl | rfl | rfl | rfl <;> cases e
              have hHeld := (show wc.drew.cell? ⟨b + 3, 0, none⟩ = some (.slice (some ⟨b + 2, 0, none⟩) p.size p.size) ∧ wc.drew.cell? ⟨b + 2, i, none⟩ = some (.slice (some ⟨gb, 0, none⟩) nm.size nm.size) ∧ wc.drew.cell? ⟨b, 0, none⟩ = some (.string p) ∧ wc.drew.cell? ⟨b + 1, 0, none⟩ = some (.string nm) from ⟨xt, xs, xp, xn⟩)
              refine take_ (i := 0) (N := some 53) (v := ?_) (a' := ?_) #[true, false, false, false, false, false, false, false, false, false, false, false, false, false, false] rfl rfl (by kernel_rfl) (fun _ _ _ h => h) (Or.inl ⟨by rfl, ?_⟩) hHeld ?_ ?_
              rotate_left
              · rintro w' ⟨s0_, s1_, s2_, s3_⟩
                go_simp
                with_reducible rfl
              rotate_left
              · simp only [Act.put, List.setIfInBounds_toArray, List.set_cons_zero, List.set_cons_succ, i64_w, i32_w]
                rfl
              refine pure_ (i := 1) (N := some 54) (v := ?_) (a' := ?_) #[true, true, false, false, false, false, false, false, false, false, false, false, false, false, false] rfl rfl (by kernel_rfl) (fun _ _ _ h => h) (Or.inl ⟨by rfl, ?_⟩) ?_ ?_
              rotate_left
              · intro w'
                go_simp
                with_reducible rfl
              rotate_left
              · simp only [Act.put, List.setIfInBounds_toArray, List.set_cons_zero, List.set_cons_succ, i64_w, i32_w]
                rfl
              refine pure_ (i := 2) (N := some 55) (v := ?_) (a' := ?_) #[true, true, true, false, false, false, false, false, false, false, false, false, false, false, false] rfl rfl (by kernel_rfl) (fun _ _ _ h => h) (Or.inl ⟨by rfl, ?_⟩) ?_ ?_
              rotate_left
              · intro w'
                go_simp
                with_reducible rfl
              rotate_left
              · simp only [Act.put, List.setIfInBounds_toArray, List.set_cons_zero, List.set_cons_succ, i64_w, i32_w]
                rfl
              refine take_ (i := 3) (N := some 56) (v := ?_) (a' := ?_) #[true, true, true, true, false, false, false, false, false, false, false, false, false, false, false] rfl rfl (by kernel_rfl) (fun _ _ _ h => h) (Or.inl ⟨by rfl, ?_⟩) hHeld ?_ ?_
              rotate_left
              · rintro w' ⟨s0_, s1_, s2_, s3_⟩
                go_simp
                with_reducible rfl
              rotate_left
              · simp only [Act.put, List.setIfInBounds_toArray, List.set_cons_zero, List.set_cons_succ, i64_w, i32_w]
                rfl
              refine pure_ (i := 4) (N := some 57) (v := ?_) (a' := ?_) #[true, true, true, true, true, false, false, false, false, false, false, false, false, false, false] rfl rfl (by kernel_rfl) (fun _ _ _ h => h) (Or.inl ⟨by rfl, ?_⟩) ?_ ?_
              rotate_left
              · intro w'
                go_simp
                with_reducible rfl
              rotate_left
              · simp only [Act.put, List.setIfInBounds_toArray, List.set_cons_zero, List.set_cons_succ, i64_w, i32_w]
                rfl
              refine take_ (i := 5) (N := some 58) (v := ?_) (a' := ?_) #[true, true, true, true, true, true, false, false, false, false, false, false, false, false, false] rfl rfl (by kernel_rfl) (fun _ _ _ h => h) (Or.inl ⟨by rfl, ?_⟩) hHeld ?_ ?_
              rotate_left
              · rintro w' ⟨s0_, s1_, s2_, s3_⟩
                go_simp
                with_reducible rfl
              rotate_left
              · simp only [Act.put, List.setIfInBounds_toArray, List.set_cons_zero, List.set_cons_succ, i64_w, i32_w]
                rfl
              refine pure_ (i := 6) (N := some 59) (v := ?_) (a' := ?_) #[true, true, true, true, true, true, true, false, false, false, false, false, false, false, false] rfl rfl (by kernel_rfl) (fun _ _ _ h => h) (Or.inl ⟨by rfl, ?_⟩) ?_ ?_
              rotate_left
              · intro w'
                go_simp
                with_reducible rfl
              rotate_left
              · simp only [Act.put, List.setIfInBounds_toArray, List.set_cons_zero, List.set_cons_succ, i64_w, i32_w]
                rfl
              refine pure_ (i := 7) (N := some 60) (v := .int .u8 (bt p (i : Int))) (a' := ?anew7) #[true, true, true, true, true, true, true, true, false, false, false, false, false, false, false] rfl rfl (by kernel_rfl) (fun _ _ _ h => h) (Or.inl ⟨by rfl, ?arun7⟩) ?aput7 ?arest7
              case aput7 =>
                simp only [Act.put, List.setIfInBounds_toArray, List.set_cons_zero, List.set_cons_succ, i64_w, i32_w]
                rfl
              case arun7 =>
                intro w'
                go_simp
                (try simp only [bt, Int.toNat_natCast, dif_pos hiN, dif_pos HC.out])
                (try rfl)
              refine take_ (i := 8) (N := some 61) (v := ?_) (a' := ?_) #[true, true, true, true, true, true, true, true, true, false, false, false, false, false, false] rfl rfl (by kernel_rfl) (fun _ _ _ h => h) (Or.inl ⟨by rfl, ?_⟩) hHeld ?_ ?_
              rotate_left
              · rintro w' ⟨s0_, s1_, s2_, s3_⟩
                go_simp
                with_reducible rfl
              rotate_left
              · simp only [Act.put, List.setIfInBounds_toArray, List.set_cons_zero, List.set_cons_succ, i64_w, i32_w]
                rfl
              refine pure_ (i := 9) (N := some 62) (v := ?_) (a' := ?_) #[true, true, true, true, true, true, true, true, true, true, false, false, false, false, false] rfl rfl (by kernel_rfl) (fun _ _ _ h => h) (Or.inl ⟨by rfl, ?_⟩) ?_ ?_
              rotate_left
              · intro w'
                go_simp
                with_reducible rfl
              rotate_left
              · simp only [Act.put, List.setIfInBounds_toArray, List.set_cons_zero, List.set_cons_succ, i64_w, i32_w]
                rfl
              refine pure_ (i := 11) (N := some 64) (v := ?_) (a' := ?_) #[true, true, true, true, true, true, true, true, true, true, false, true, false, false, false] rfl rfl (by kernel_rfl) (fun _ _ _ h => h) (Or.inl ⟨by rfl, ?_⟩) ?_ ?_
              rotate_left
              · intro w'
                go_simp
                with_reducible rfl
              rotate_left
              · simp only [Act.put, List.setIfInBounds_toArray, List.set_cons_zero, List.set_cons_succ, i64_w, i32_w]
                rfl
              refine one_ (i := 10) (N := some 63) #[true, true, true, true, true, true, true, true, true, true, true, true, false, false, false] rfl rfl (by kernel_rfl) (by decide) (fun K hK => ?_)
              refine goes_ Try.func23 (by kernel_rfl) rfl #[.int .u8 (bt p (i : Int)), .string nm, .int .i64 (o : Int)] (by rfl) rfl rfl (by (try simp only [List.map_toArray, List.map_cons, List.map_nil]); first | done | rfl) ?_
              refine (fuzzy_points.calls _ _ _ _ wc.drew (points_eq (bt p (i : Int)) nm o HC.out (by omega))).mono ?_
              rintro e w6 ⟨rfl, hd6⟩
              rw [HPT.out]
              refine ⟨_, rfl, ?_⟩
              have HR6 := Aside0.mk ((hRc.out.draw (X' := wc.drew) ((hRc.out.bel.trans (below_drew1 (Below.refl _ wc) |>.mono (Nat.le_trans HGW.out.1 hRc.out.size)))) rfl).drawn HGW.out.1 hd6)
              have yt := cell_of_blk HR6.out.bt
              have yp := cell_of_blk HR6.out.bp
              have yn := cell_of_blk HR6.out.bn
              have ys : w6.cell? ⟨b + 2, i, none⟩ = some (.slice (some ⟨gb, 0, none⟩) nm.size nm.size) := (cells_of_blk HR6.out.tb i).trans ((tabA_get _ _ _ _ _ hiN).trans (by
                unfold slotV
                rw [show stepS p nm st i i = some ((List.range nm.size).map (cellS p nm i (st (i + 1)))) from if_pos rfl]
                simp))
              refine hK.out _ _ (⟨yt, ys, yp, yn⟩) (fun hHeld => ?_)
              clear hK K
              refine norm_ (a' := ?_) ?_ ?_
              rotate_left
              · show Act.put _ (some 63) _ = _
                simp only [Act.put, List.setIfInBounds_toArray, List.set_cons_zero, List.set_cons_succ, i64_w, i32_w]
                rfl
              have hwC := HWC.out
              refine pure_ (i := 12) (N := some 65) (v := ?_) (a' := ?_) #[true, true, true, true, true, true, true, true, true, true, true, true, true, false, false] rfl rfl (by kernel_rfl) (fun _ _ _ h => h) (Or.inl ⟨by rfl, ?_⟩) ?_ ?_
              rotate_left
              · intro w'
                go_simp
                with_reducible rfl
              rotate_left
              · simp only [Act.put, List.setIfInBounds_toArray, List.set_cons_zero, List.set_cons_succ, i64_w, i32_w]
                rfl
              refine pure_ (i := 13) (N := some 66) (v := ?_) (a' := ?_) #[true, true, true, true, true, true, true, true, true, true, true, true, true, true, false] rfl rfl (by kernel_rfl) (fun _ _ _ h => h) (Or.inl ⟨by rfl, ?_⟩) ?_ ?_
              rotate_left
              · intro w'
                go_simp
                with_reducible rfl
              rotate_left
              · simp only [Act.put, List.setIfInBounds_toArray, List.set_cons_zero, List.set_cons_succ, i64_w, i32_w]
                rfl
              refine last_ (i := 14) (N := none) #[true, true, true, true, true, true, true, true, true, true, true, true, true, true, true] rfl rfl (by kernel_rfl) (by decide) (fun K hK => ?_)
              have hcell : w6.cell? ⟨gb, o, none⟩ = some (.int .i64 ((partS p nm i (st (i + 1)) o).getD o 0)) := (cells_of_blk HR6.out.row o).trans (by
                have hl := partS_len p nm i (st (i + 1)) o (Nat.le_of_lt HC.out)
                unfold ints
                simp [List.getElem?_eq_getElem (show o < (partS p nm i (st (i + 1)) o).length by rw [hl]; exact HC.out)])
              have hfro : w6.frozen? ⟨gb, o, none⟩ = false := free_of_blk HR6.out.row o
              refine skip_ (w1 := w6.setCell ⟨gb, o, none⟩ (.int .i64 C)) (by rfl) rfl ?_ ?_
              · go_simp
              refine hK.out _ _ (done_ (by kernel_rfl) ?_)
              clear hK K hHeld r0 r1 r2 r3 r4 r5 hwC xt xp xn xs yt yp yn ys hcell hfro hd6
              have HFIN := Aside0.mk (show RowS W b i gb p nm g st (partS p nm i (st (i + 1)) (o + 1)) (w6.setCell ⟨gb, o, none⟩ (.int .i64 C)) by
                rw [← partS_put p nm i (st (i + 1)) o HC.out, HCV.out]
                exact HR6.out.put (by have := HGW.out; omega) HGN.out o C)
              have hol : o + 1 ≤ 9223372036854775807 := by have := HC.out; omega
              gi_wp2
              go_roundw
              case rel => exact ⟨o + 1, by first | rfl | simp, HC.out, HFIN⟩
              case measure => have := HC.out; simp [intOf]; omega
      · have hon : o = nm.size := by omega
        subst hon
        have c1 : decide ((nm.size : Int) < (nm.size : Int)) = false := decide_eq_false (by omega)
        have c2 : decide (nm.size < nm.size) = false := decide_eq_false (by omega)
        have c3 : ((nm.size : Int) < (nm.size : Int)) = False := eq_false (by omega)
        clear ho c
        gi_wp2
        have hfull : partS p nm i (st (i + 1)) nm.size = (List.range nm.size).map (cellS p nm i (st (i + 1))) := by
          unfold partS
          rw [Nat.sub_self, List.replicate_zero, List.append_nil, List.take_of_length_le (by simp)]
        have hRf := hR.out
        rw [hfull] at hRf
        have hI := HI.out
        show KeepsFrom _ W wr ∧ KpB _ _ _ W wr ∧ SufI w W0 b p nm (stOf p nm (pre ++ [(⟨i, hiN⟩, xv)])) wr
        refine ⟨hRf.ko.from _, ⟨hRf.bi, fun _ => ⟨_, hRf.tb, tabA_size _ _ _ _⟩⟩, ?_⟩
        rw [HNX.out]
        refine ⟨hRf.bp, hRf.bn, hRf.bt, hRf.bi.trans hI.bi, ⟨_, hRf.tb, fun j row hj => ?_⟩, hI.bel.trans hRf.bel, Nat.le_trans hI.size hRf.size⟩
        unfold stepS at hj
        split at hj
        case isTrue hji =>
          subst hji
          obtain rfl := Option.some.inj hj
          simp only [if_true]
          exact ⟨by have := HGW.out; omega, hRf.row⟩
        case isFalse hji =>
          simp only [hji, if_false]
          exact ⟨(HG2.out j row hj).1, hRf.old j row hj⟩
  case done =>
    rintro D ys W hD hys hI hK
    rw [stOf_all p nm ys hys] at hI
    have xt := cell_of_blk hI.bt
    have hwb := hb
    have HI := Aside0.mk hI
    have HKD := Aside0.mk hK
    have hDW : D < W.heap.size := lt_of_blk hK
    clear hI hK hys hI0 hT0 h04
    go_wp2
    refine ⟨by simp, .inl ⟨_, _, rfl, run_takeDeferred HKD.out, ⟨_, results_tmp rfl _ _ _, ⟨b + 2, rfl, ?_, ?_⟩⟩⟩⟩
    · obtain ⟨g, h1, h2⟩ := HI.out.tab
      have hne : ∀ (k : Nat) (cs : Array Value) (t : TypeId), W.heap[k]? = some (.cells cs t (0, 0)) → k ≠ D := fun k cs t hk e => by
        subst e
        rw [HKD.out] at hk
        cases hk
      exact ⟨g, (World.putObj_heap_other (hne _ _ _ h1)).trans h1, fun j row hj => ⟨by have := (h2 j row hj).1; omega, (World.putObj_heap_other (hne _ _ _ (h2 j row hj).2)).trans (h2 j row hj).2⟩⟩
    · rw [hwb]
      exact HI.out.bel.trans ⟨rfl, rfl, rfl, by simp, fun k hk => World.putObj_heap_other (by omega)⟩
  case stop =>
    rintro D c pre W _ _ h _
    exact h.elim
end
section
open Go.Lib Go.Shelf Go.Proofs.Ytpkdgdhfhgelbaa.Hand Go.Proofs.Ytpkdgdhfhgelbaa.Aid
/-- The places, row by row: none when a row has none behind the last one. -/
def scoreL : List (List Int) → Nat → Option (List Int)
  | [], _ => some []
  | r :: t, q => if (bestP r q).1 = -1 then none else (scoreL t ((bestP r q).2 + 1).toNat).map ((bestP r q).2 :: ·)
def finP (acc : List Int) (total : Int) : Option (List Int) → Int × List Int × Bool
  | none => (0, [], false)
  | some l => (total, acc ++ l, true)
def rowsP (p nm : ByteArray) : List (List Int) := (List.range p.size).map (rowP p nm)
def tot0 (rows : List (List Int)) : Int := match rows with | [] => 0 | r :: _ => (bestP r 0).1
def scoreP (p nm : ByteArray) : Int × List Int × Bool := if p.size > 30 ∨ nm.size > 30 then (0, [], false) else finP [] (tot0 (rowsP p nm)) (scoreL (rowsP p nm) 0)
theorem bestL_off (prev : Int) : ∀ (l : List Int) (i s o : Int), (bestL prev l i s o = (s, o)) ∨ (i ≤ (bestL prev l i s o).2 ∧ (bestL prev l i s o).2 < i + l.length)
  | [], i, s, o => .inl rfl
  | x :: t, i, s, o => by
    obtain ⟨n, hn⟩ : ∃ n, n = (if x ≠ -1 ∧ prev ≥ 0 ∧ i = prev + 1 then x + 3 else x) := ⟨_, rfl⟩
    have hu : bestL prev (x :: t) i s o = if n > s then bestL prev t (i + 1) n i else bestL prev t (i + 1) s o := by rw [hn]; rfl
    rw [hu, List.length_cons]
    split
    · right
      rcases bestL_off prev t (i + 1) n i with h | h
      · rw [h]; constructor <;> simp only <;> omega
      · omega
    · rcases bestL_off prev t (i + 1) s o with h | h
      · exact .inl h
      · right; omega
theorem bestP_off (row : List Int) (q : Nat) (h : (bestP row q).1 ≠ -1) : (q : Int) ≤ (bestP row q).2 ∧ (bestP row q).2 < row.length := by
  unfold bestP at h ⊢
  rcases bestL_off ((q : Int) - 1) (row.drop q) (q : Int) (-1) (-1) with h1 | h1
  · rw [h1] at h; exact absurd rfl h
  · refine ⟨h1.1, ?_⟩
    have := h1.2
    rw [List.length_drop] at this
    omega
theorem rowP_len (p nm : ByteArray) (j : Nat) (h : j < p.size) : (rowP p nm j).length = nm.size := by
  unfold rowP
  rw [bytes_drop p j h]
  exact sufRow_len _ _ _
theorem rowP_bound (p nm : ByteArray) (j : Nat) (hp : p.size ≤ 30) : ∀ x ∈ rowP p nm j, -1 ≤ x ∧ x ≤ 1000000 := fun x hx => by
  have := sufRow_bound nm _ x hx
  rw [List.length_drop, bytes_len] at this
  omega
theorem rows_at (p nm : ByteArray) (j : Nat) (h : j < p.size) : (rowsP p nm).drop j = rowP p nm j :: (rowsP p nm).drop (j + 1) := by
  have hl : j < (rowsP p nm).length := by unfold rowsP; simpa using h
  rw [List.drop_eq_getElem_cons hl]
  congr 1
  have : (rowsP p nm)[j]? = some (rowP p nm j) := by unfold rowsP; simp [List.getElem?_map, List.getElem?_range h]
  rw [List.getElem?_eq_getElem hl] at this
  exact Option.some.inj this
theorem stop_ {p : Prop} (h : Aside0 p) : p := h.out
theorem infI : (Try.prog.info? 3).map (fun i => (i.zero, i.size, i.bytes)) = some (some (.int .i64 0), (Kd.int .i64).sz, 8) := by kernel_rfl
set_option maxRecDepth 100000 in
set_option maxHeartbeats 16000000 in
theorem score_calls (p nm : ByteArray) (w : World) :
    Calls Try.prog 6 #[.string p, .string nm] w fun e w' => ∃ v, e = .returned (.tuple #[.int .i64 (scoreP p nm).1, v, .bool (scoreP p nm).2.2]) ∧ Kd.R (Kd.int .i64) 3 w' w.heap.size (fun _ => True) v (scoreP p nm).2.1 ∧ Below w.heap.size w w' := by
  by_cases hp : p.size > 30
  · have HF := Aside0.mk (show scoreP p nm = (0, [], false) by unfold scoreP; rw [if_pos (.inl hp)])
    have c1 : decide ((p.size : Int) > 30) = true := decide_eq_true (by omega)
    have c2 : decide (p.size > 30) = true := decide_eq_true hp
    have c3 : decide ((30 : Int) < (p.size : Int)) = true := decide_eq_true (by omega)
    have c4 : decide (30 < p.size) = true := decide_eq_true hp
    clear hp
    go_enter Try.func6, Try.ntmps6
    go_wp2
    go_ret3
    rw [HF.out]
    exact ⟨_, rfl, Kd.R_nil _ _ _ _ _, Below.refl _ _⟩
  have c1 : decide ((p.size : Int) > 30) = false := decide_eq_false (by omega)
  have c2 : decide (p.size > 30) = false := decide_eq_false hp
  have c3 : decide ((30 : Int) < (p.size : Int)) = false := decide_eq_false (by omega)
  have c4 : decide (30 < p.size) = false := decide_eq_false hp
  by_cases hn : nm.size > 30
  · have HF := Aside0.mk (show scoreP p nm = (0, [], false) by unfold scoreP; rw [if_pos (.inr hn)])
    have d1 : decide ((nm.size : Int) > 30) = true := decide_eq_true (by omega)
    have d2 : decide (nm.size > 30) = true := decide_eq_true hn
    have d3 : decide ((30 : Int) < (nm.size : Int)) = true := decide_eq_true (by omega)
    have d4 : decide (30 < nm.size) = true := decide_eq_true hn
    clear hp hn
    go_enter Try.func6, Try.ntmps6
    go_wp2
    go_ret3
    rw [HF.out]
    exact ⟨_, rfl, Kd.R_nil _ _ _ _ _, Below.refl _ _⟩
  have d1 : decide ((nm.size : Int) > 30) = false := decide_eq_false (by omega)
  have d2 : decide (nm.size > 30) = false := decide_eq_false hn
  have d3 : decide ((30 : Int) < (nm.size : Int)) = false := decide_eq_false (by omega)
  have d4 : decide (30 < nm.size) = false := decide_eq_false hn
  have HF := Aside0.mk (show scoreP p nm = finP [] (tot0 (rowsP p nm)) (scoreL (rowsP p nm) 0) by unfold scoreP; rw [if_neg (by omega)])
  have HS := Aside0.mk (suffix_calls p nm w (by omega) (by omega))
  have HP := Aside0.mk (show p.size ≤ 30 by omega)
  have HN := Aside0.mk (show nm.size ≤ 30 by omega)
  clear hp hn
  go_enter Try.func6, Try.ntmps6
  go_wp2_with (first | (go_at_call 11; refine HS.out.mono ?_; rintro e w2 ⟨tb, rfl, ht2, hb2⟩; have HT2 := Aside0.mk ht2; have HB2 := Aside0.mk hb2; clear ht2 hb2))
  clear c1 c2 c3 c4 d1 d2 d3 d4 HS
  go_loopg [7, 8, 9, 26] p.size (fun kq v7 v8 v9 v26 W => ∃ (i q : Nat) (acc : List Int) (total : Int) (A7 : Option Addr) (c7 : Nat), v7 = .slice A7 acc.length c7 ∧ v8 = .int .i64 total ∧ v9 = .int .i64 ((q : Int) - 1) ∧ v26 = .int .i64 (i : Int) ∧ kq + i = p.size ∧ acc.length = i ∧ q ≤ nm.size ∧
    Aside0 (scoreP p nm = finP acc (if i = 0 then tot0 (rowsP p nm) else total) (scoreL ((rowsP p nm).drop i) q) ∧ (i = 0 → total = 0 ∧ q = 0) ∧ Kd.R (Kd.int .i64) 3 W w2.heap.size (fun _ => True) (.slice A7 acc.length c7) acc ∧ Below w2.heap.size w2 W))
  case atStart => exact ⟨0, 0, [], 0, none, 0, rfl, rfl, rfl, rfl, by omega, rfl, by omega, ⟨HF.out, fun _ => ⟨rfl, rfl⟩, Kd.R_nil _ _ _ _ _, Below.refl _ _⟩⟩
  case round =>
    obtain ⟨i, q, acc, total, A7, c7, rfl, rfl, rfl, rfl, hi, hacc, hq, hA⟩ := hrel
    cases gk with
    | zero =>
      have hie : i = p.size := by omega
      have c1 : decide ((i : Int) < (p.size : Int)) = false := decide_eq_false (by omega)
      have c2 : decide (i < p.size) = false := decide_eq_false (by omega)
      have HFIN := Aside0.mk (show scoreP p nm = (total, acc, true) by
        rw [hA.out.1, hie, List.drop_of_length_le (by unfold rowsP; simp)]
        show ((if p.size = 0 then tot0 (rowsP p nm) else total), acc ++ [], true) = _
        rw [List.append_nil]
        by_cases h0 : p.size = 0
        · rw [if_pos h0, (hA.out.2.1 (by omega)).1]
          have : rowsP p nm = [] := by unfold rowsP; rw [h0]; rfl
          rw [this]
          rfl
        · rw [if_neg h0])
      clear hi hacc hq hie
      go_wp2
      go_ret3
      rw [HFIN.out]
      exact ⟨_, rfl, Kd.R_lower hA.out.2.2.1 HB2.out.size, HB2.out.trans (hA.out.2.2.2.mono HB2.out.size)⟩
    | succ k1 =>
      have hip : i < p.size := by omega
      have HACC := Aside0.mk hacc
      clear hacc
      have c1 : decide ((i : Int) < (p.size : Int)) = true := decide_eq_true (by omega)
      have c2 : decide (i < p.size) = true := decide_eq_true hip
      obtain ⟨g, hg1, hg2⟩ := HT2.out
      have hst : (fun j => if j < p.size then some (rowP p nm j) else none) i = some (rowP p nm i) := if_pos hip
      have hrow := hg2 i _ hst
      have hcell : wr.cell? ⟨tb, i, none⟩ = some (.slice (some ⟨g i, 0, none⟩) nm.size nm.size) := (cells_of_blk ((hA.out.2.2.2.block _ (lt_of_blk hg1)).trans hg1) i).trans ((tabA_get _ _ _ _ _ hip).trans (by
        unfold slotV
        rw [hst]
        rfl))
      have hlr := rowP_len p nm i hip
      have hbr := rowP_bound p nm i HP.out
      have hC := C_ints ((hA.out.2.2.2.block _ (lt_of_blk hrow.2)).trans hrow.2) (by rw [hlr]; have := HN.out; omega)
      have hd := rows_at p nm i hip
      obtain ⟨row, hre⟩ : ∃ row, rowP p nm i = row := ⟨_, rfl⟩
      rw [hre] at hlr hbr hC hd
      obtain ⟨kk, hkk⟩ := Ev.rounds (best_ev row (by rw [hlr]; have := HN.out; omega) q (by have := HN.out; omega) hbr)
      have hoff := bestP_off row q
      obtain ⟨⟨s1, o1⟩, hbe⟩ : ∃ y : Int × Int, bestP row q = y := ⟨_, rfl⟩
      have hstep : scoreL ((rowsP p nm).drop i) q = if s1 = -1 then none else (scoreL ((rowsP p nm).drop (i + 1)) (o1 + 1).toNat).map (o1 :: ·) := by
        rw [hd]
        show (if (bestP row q).1 = -1 then none else (scoreL _ ((bestP row q).2 + 1).toNat).map ((bestP row q).2 :: ·)) = _
        rw [hbe]
      have ht0 : i = 0 → tot0 (rowsP p nm) = s1 := fun h0 => by
        have hq0 := (hA.out.2.1 h0).2
        subst h0
        rw [List.drop_zero] at hd
        rw [hd]
        show (bestP row 0).1 = s1
        rw [← hq0, hbe]
      rw [hbe] at hkk hoff
      rw [← hlr] at hcell
      have HBC := Aside0.mk (fuzzy_best.calls kk (some ⟨g i, 0, none⟩) row.length row ((q : Int) - 1) s1 o1 wr hC (Nat.le_refl _) hkk)
      have r0 := eq_true (show (0 : Int) ≤ (i : Int) by omega)
      have r1 := eq_true (show (i : Int) < (p.size : Int) by omega)
      have r2 := eq_true hip
      have HST := Aside0.mk hstep
      have HT0 := Aside0.mk ht0
      have HOF := Aside0.mk hoff
      have HLR := Aside0.mk hlr
      clear hstep ht0 hoff hst hrow hg1 hg2 hC hd hkk hbe hlr hbr hre
      by_cases hs1 : s1 = -1
      · subst hs1
        have HFIN := Aside0.mk (show scoreP p nm = (0, [], false) by rw [hA.out.1, HST.out, if_pos rfl]; rfl)
        go_wp2_with (first | (go_at_call 12; refine HBC.out.mono ?_; rintro e w5 ⟨rfl, hd5⟩; have HD5 := Aside0.mk hd5; clear hd5))
        go_ret3
        rw [HFIN.out]
        exact ⟨_, rfl, Kd.R_nil _ _ _ _ _, HB2.out.trans ((hA.out.2.2.2.trans (HD5.out.below.mono hA.out.2.2.2.size)).mono HB2.out.size)⟩
      · have d1 : (s1 == -1) = false := by simpa using hs1
        have ho := HOF.out hs1
        rw [HLR.out] at ho
        have HFIN := Aside0.mk (show scoreP p nm = finP (acc ++ [o1]) (if i = 0 then s1 else total) (scoreL ((rowsP p nm).drop (i + 1)) (o1 + 1).toNat) by
          rw [hA.out.1, HST.out, if_neg hs1]
          have e : (if i = 0 then tot0 (rowsP p nm) else total) = (if i = 0 then s1 else total) := by
            split
            · exact HT0.out (by assumption)
            · rfl
          rw [e]
          cases scoreL ((rowsP p nm).drop (i + 1)) (o1 + 1).toNat with
          | none => rfl
          | some l => show (_, acc ++ (o1 :: l), true) = (_, acc ++ [o1] ++ l, true); rw [List.append_assoc]; rfl)
        have HO1 := Aside0.mk ho
        clear ho
        by_cases hi0 : i = 0
        · have e1 : ((i : Int) == 0) = true := by rw [hi0]; rfl
          have e2 : (i == 0) = true := by rw [hi0]; rfl
          have HI0 := Aside0.mk hi0
          clear hi0
          go_upto_region 13 with (first | (go_at_call 12; refine HBC.out.mono ?_; rintro e w5 ⟨rfl, hd5⟩; have HD5 := Aside0.mk hd5; clear hd5))
          have hr5 := Kd.R_below hA.out.2.2.1 HD5.out.below
          have hb5 : Below w2.heap.size w2 w5 := hA.out.2.2.2.trans (HD5.out.below.mono hA.out.2.2.2.size)
          have hsz5 := hb5.size
          have hac : acc.length ≤ 30 := by have := HP.out; have := HACC.out; omega
          have HR5 := Aside0.mk hr5
          have HB5 := Aside0.mk hb5
          clear hr5 hb5
          go_wp2_with (first | ((with_reducible refine gate_builtin (b := .append) (xs := #[.tmp 42, .tmp 44]) rfl ?_); at_builtin; refine stop_ ?_))
          refine ⟨?_⟩
          refine Kd.R_append (Kd.int .i64) (w0 := w2) w2.heap.size rfl (.tmp 42) (.tmp 44) 23 3 (.int .i64 0) 8 rfl Try.underlying23 infI rfl (by decide) (by omega) (.slice A7 acc.length c7) acc o1 [.int .i64 o1] (fun _ => True) (fun _ => False) rfl rfl rfl (fun _ h => h.elim) (fun _ _ => trivial) HR5.out HB5.out hsz5 (by omega) ?_
          intro v11 w11 ho11 hb11 hg11 hat11
          obtain ⟨A11, c11, hv⟩ := Kd.R_slice ho11
          subst hv
          have HO11 := Aside0.mk (And.intro ho11 hb11)
          clear ho11 hb11 hg11 hat11 r0 r1 r2 c1 c2 hcell
          go_wp2
          go_roundg k1
          case measure => omega
          case rel =>
            have h1 := HO1.out
            refine ⟨i + 1, (o1 + 1).toNat, acc ++ [o1], s1, A11, c11, by rw [List.length_append]; rfl, rfl, by rw [show (((o1 + 1).toNat : Nat) : Int) - 1 = o1 by omega], by first | rfl | (rw [wrap_id (by omega) (by have := HP.out; omega)]; rfl), by omega, by rw [List.length_append, HACC.out]; rfl, by omega, ⟨?_, fun h => absurd h (Nat.succ_ne_zero i), HO11.out.1, HO11.out.2⟩⟩
            rw [HFIN.out, if_neg (Nat.succ_ne_zero i)]
            rw [if_pos HI0.out]
        · have e1 : ((i : Int) == 0) = false := by rw [Bool.eq_false_iff, Ne, beq_iff_eq]; omega
          have e2 : (i == 0) = false := by rw [Bool.eq_false_iff, Ne, beq_iff_eq]; exact hi0
          have HI0 := Aside0.mk hi0
          clear hi0
          go_upto_region 13 with (first | (go_at_call 12; refine HBC.out.mono ?_; rintro e w5 ⟨rfl, hd5⟩; have HD5 := Aside0.mk hd5; clear hd5))
          have hr5 := Kd.R_below hA.out.2.2.1 HD5.out.below
          have hb5 : Below w2.heap.size w2 w5 := hA.out.2.2.2.trans (HD5.out.below.mono hA.out.2.2.2.size)
          have hsz5 := hb5.size
          have hac : acc.length ≤ 30 := by have := HP.out; have := HACC.out; omega
          have HR5 := Aside0.mk hr5
          have HB5 := Aside0.mk hb5
          clear hr5 hb5
          go_wp2_with (first | ((with_reducible refine gate_builtin (b := .append) (xs := #[.tmp 42, .tmp 44]) rfl ?_); at_builtin; refine stop_ ?_))
          refine ⟨?_⟩
          refine Kd.R_append (Kd.int .i64) (w0 := w2) w2.heap.size rfl (.tmp 42) (.tmp 44) 23 3 (.int .i64 0) 8 rfl Try.underlying23 infI rfl (by decide) (by omega) (.slice A7 acc.length c7) acc o1 [.int .i64 o1] (fun _ => True) (fun _ => False) rfl rfl rfl (fun _ h => h.elim) (fun _ _ => trivial) HR5.out HB5.out hsz5 (by omega) ?_
          intro v11 w11 ho11 hb11 hg11 hat11
          obtain ⟨A11, c11, hv⟩ := Kd.R_slice ho11
          subst hv
          have HO11 := Aside0.mk (And.intro ho11 hb11)
          clear ho11 hb11 hg11 hat11 r0 r1 r2 c1 c2 hcell
          go_wp2
          go_roundg k1
          case measure => omega
          case rel =>
            have h1 := HO1.out
            refine ⟨i + 1, (o1 + 1).toNat, acc ++ [o1], total, A11, c11, by rw [List.length_append]; rfl, rfl, by rw [show (((o1 + 1).toNat : Nat) : Int) - 1 = o1 by omega], by first | rfl | (rw [wrap_id (by omega) (by have := HP.out; omega)]; rfl), by omega, by rw [List.length_append, HACC.out]; rfl, by omega, ⟨?_, fun h => absurd h (Nat.succ_ne_zero i), HO11.out.1, HO11.out.2⟩⟩
            rw [HFIN.out, if_neg (Nat.succ_ne_zero i)]
            rw [if_neg HI0.out]
end
def fuzzy_Score.f (a0 : ByteArray) (a1 : ByteArray) : Option (Int × List Int × Bool) := some (scoreP a0 a1)
theorem fuzzy_Score.calls (a0 : ByteArray) (a1 : ByteArray) (r1 : Int) (r2 : List Int) (r3 : Bool) (w : World) (h : fuzzy_Score.f a0 a1 = some (r1, r2, r3)) :
    Calls Try.prog 6 #[.string a0, .string a1] w fun e w' => ∃ v1_ : Value, e = .returned (.tuple #[.int .i64 r1, v1_, .bool r3]) ∧ Kd.R (Kd.int .i64) 3 w' w.heap.size (fun _ => True) v1_ r2 ∧ Below w.heap.size w w' := by
  have e := Option.some.inj h
  have hs := score_calls a0 a1 w
  rw [e] at hs
  exact hs

end Go.Proofs.Ytpkdgdhfhgelbaa.QFuzzyScoreEqualsReference
