/-
  Least solutions of monotone rules, in plain Lean: bits, Kleene's rounds, the work list.
-/
import Derived.Test.YtglckkkjfcomlaaAid
import Derived.Laws.BitsAllLaws
namespace Go.Proofs.Ytglckkkjfcomlaa.FixMath
open Go.RowKit Go.Proofs.YtglckkkjfcomlaaW.PrintWords Go.Proofs.YtglckkkjfcomlaaW.PrintLast Go.Proofs.YtglckkkjfcomlaaW.PrintMore Go.Proofs.Ytglckkkjfcomlaa.Aid
set_option linter.unusedSimpArgs false
set_option linter.unusedVariables false

def bit (x : Int) (k : Nat) : Bool := x.toNat.testBit k
def small (x : Int) : Prop := 0 ≤ x ∧ x < 1048576
theorem small0 : small 0 := ⟨by omega, by omega⟩
theorem bit0 (k : Nat) : bit 0 k = false := by simp [bit]
theorem ofInt_i64 (a : Nat) (ha : a < 18446744073709551616) : (BitVec.ofInt 64 (a : Int)).toNat = a := by
  rw [BitVec.ofInt_natCast, BitVec.toNat_ofNat]; exact Nat.mod_eq_of_lt (by omega)
theorem i64_and_nat (a b : Nat) (ha : a < 9223372036854775808) (hb : b < 9223372036854775808) : Go.bits .and .i64 (a : Int) (b : Int) = ((a &&& b : Nat) : Int) := by
  have hx : a &&& b < 2 ^ 63 := Nat.and_lt_two_pow _ (by omega)
  show IntKind.i64.wrap ((BitVec.ofInt 64 (a : Int) &&& BitVec.ofInt 64 (b : Int)).toNat : Int) = _
  rw [BitVec.toNat_and, ofInt_i64 a (by omega), ofInt_i64 b (by omega)]
  simp only [IntKind.wrap, IntKind.bits, IntKind.signed]
  generalize a &&& b = x at hx
  simp
  omega
theorem i64_or_nat (a b : Nat) (ha : a < 9223372036854775808) (hb : b < 9223372036854775808) : Go.bits .or .i64 (a : Int) (b : Int) = ((a ||| b : Nat) : Int) := by
  have hx : a ||| b < 2 ^ 63 := Nat.or_lt_two_pow (by omega) (by omega)
  show IntKind.i64.wrap ((BitVec.ofInt 64 (a : Int) ||| BitVec.ofInt 64 (b : Int)).toNat : Int) = _
  rw [BitVec.toNat_or, ofInt_i64 a (by omega), ofInt_i64 b (by omega)]
  simp only [IntKind.wrap, IntKind.bits, IntKind.signed]
  generalize a ||| b = x at hx
  simp
  omega
theorem and_bits {a b : Int} (ha : small a) (hb : small b) : small (Go.bits .and .i64 a b) ∧ ∀ k, bit (Go.bits .and .i64 a b) k = (bit a k && bit b k) := by
  obtain ⟨A, rfl⟩ := Int.eq_ofNat_of_zero_le ha.1
  obtain ⟨B, rfl⟩ := Int.eq_ofNat_of_zero_le hb.1
  have h1 := ha.2
  have h2 := hb.2
  rw [i64_and_nat A B (by omega) (by omega)]
  have hx : A &&& B < 2 ^ 20 := Nat.and_lt_two_pow _ (by omega)
  exact ⟨⟨by omega, by omega⟩, fun k => by simp [bit, Nat.testBit_and]⟩
theorem or_bits {a b : Int} (ha : small a) (hb : small b) : small (Go.bits .or .i64 a b) ∧ ∀ k, bit (Go.bits .or .i64 a b) k = (bit a k || bit b k) := by
  obtain ⟨A, rfl⟩ := Int.eq_ofNat_of_zero_le ha.1
  obtain ⟨B, rfl⟩ := Int.eq_ofNat_of_zero_le hb.1
  have h1 := ha.2
  have h2 := hb.2
  rw [i64_or_nat A B (by omega) (by omega)]
  have hx : A ||| B < 2 ^ 20 := Nat.or_lt_two_pow (by omega) (by omega)
  exact ⟨⟨by omega, by omega⟩, fun k => by simp [bit, Nat.testBit_or]⟩
def sub (x y : Int) : Prop := ∀ k, bit x k = true → bit y k = true
theorem sub_refl (x : Int) : sub x x := fun _ h => h
theorem sub_trans {x y z : Int} (h : sub x y) (g : sub y z) : sub x z := fun k hk => g k (h k hk)
theorem sub0 (x : Int) : sub 0 x := fun k h => by simp [bit0] at h
theorem sub_anti {x y : Int} (hx : 0 ≤ x) (hy : 0 ≤ y) (h : sub x y) (g : sub y x) : x = y := by
  have : x.toNat = y.toNat := by
    apply Nat.eq_of_testBit_eq
    intro k
    have a := h k
    have b := g k
    unfold bit at a b
    cases e : x.toNat.testBit k <;> cases e2 : y.toNat.testBit k <;> simp_all
  omega
theorem sub_le {x y : Int} (hx : 0 ≤ x) (hy : 0 ≤ y) (h : sub x y) : x ≤ y := by
  have e : x.toNat = x.toNat &&& y.toNat := by
    apply Nat.eq_of_testBit_eq
    intro k
    rw [Nat.testBit_and]
    have a := h k
    unfold bit at a
    cases e : x.toNat.testBit k <;> cases e2 : y.toNat.testBit k <;> simp_all
  have := Nat.and_le_right (n := x.toNat) (m := y.toNat)
  omega
theorem or_sub_l {a b : Int} (ha : small a) (hb : small b) : sub a (Go.bits .or .i64 a b) := fun k h => by rw [(or_bits ha hb).2, h]; rfl
theorem or_sub_r {a b : Int} (ha : small a) (hb : small b) : sub b (Go.bits .or .i64 a b) := fun k h => by rw [(or_bits ha hb).2, h]; simp
theorem or_lub {a b c : Int} (ha : small a) (hb : small b) (h : sub a c) (g : sub b c) : sub (Go.bits .or .i64 a b) c := fun k hk => by
  rw [(or_bits ha hb).2] at hk
  rcases Bool.or_eq_true_iff.1 hk with h1 | h1
  · exact h k h1
  · exact g k h1

theorem rd_def (s : List Int) (j : Int) : rd s j = s.getD j.toNat 0 := rfl
theorem rd_small {s : List Int} (hs : ∀ v ∈ s, small v) (j : Int) : small (rd s j) := by
  rw [rd_def, List.getD_eq_getElem?_getD]
  by_cases h : j.toNat < s.length
  · rw [List.getElem?_eq_getElem h]
    exact hs _ (List.getElem_mem h)
  · rw [List.getElem?_eq_none (by omega)]
    exact small0

section
variable {ρ : Type} (m : ρ → Int) (a : ρ → List Int)
def dv (s : List Int) (js : List Int) (x : Int) : Int := js.foldl (fun x j => Go.bits .and .i64 x (rd s j)) x
def da (s : List Int) (l : List ρ) (x : Int) : Int := l.foldl (fun x r => Go.bits .or .i64 x (dv s (a r) (m r))) x
theorem dv_bits {s : List Int} (hs : ∀ v ∈ s, small v) : ∀ (js : List Int) (x : Int), small x → small (dv s js x) ∧ ∀ k, (bit (dv s js x) k = true ↔ bit x k = true ∧ ∀ j ∈ js, bit (rd s j) k = true)
  | [], x, hx => ⟨hx, fun k => by simp [dv]⟩
  | j :: js, x, hx => by
    have h1 := and_bits hx (rd_small hs j)
    have ih := dv_bits hs js _ h1.1
    refine ⟨ih.1, fun k => ?_⟩
    have e := ih.2 k
    rw [h1.2] at e
    show bit (dv s js _) k = true ↔ _
    rw [e]
    simp [and_assoc]
theorem da_bits {s : List Int} (hs : ∀ v ∈ s, small v) : ∀ (l : List ρ) (x : Int), small x → (∀ r ∈ l, small (m r)) → small (da m a s l x) ∧ ∀ k, (bit (da m a s l x) k = true ↔ bit x k = true ∨ ∃ r ∈ l, bit (m r) k = true ∧ ∀ j ∈ a r, bit (rd s j) k = true)
  | [], x, hx, _ => ⟨hx, fun k => by simp [da]⟩
  | r :: l, x, hx, hl => by
    have h0 := dv_bits hs (a r) (m r) (hl r (by simp))
    have h1 := or_bits hx h0.1
    have ih := da_bits hs l _ h1.1 (fun q hq => hl q (by simp [hq]))
    refine ⟨ih.1, fun k => ?_⟩
    have e := ih.2 k
    rw [h1.2, Bool.or_eq_true, h0.2] at e
    show bit (da m a s l _) k = true ↔ _
    rw [e]
    simp [or_assoc]
/-- Rules that are valid: masks are small, sets that are named are there. -/
def Valid (rs : List (List ρ)) : Prop := rs.length ≤ 60 ∧ ∀ l ∈ rs, ∀ r ∈ l, small (m r) ∧ ∀ j ∈ a r, 0 ≤ j ∧ j < rs.length
def at_ (rs : List (List ρ)) (i : Int) : List ρ := rs.getD i.toNat []
/-- What the rules of set i derive. -/
def der (rs : List (List ρ)) (s : List Int) (i : Int) : Int := da m a s (at_ rs i) 0
def F (rs : List (List ρ)) (s : List Int) : List Int := rs.map (fun l => da m a s l 0)
def zero (rs : List (List ρ)) : List Int := List.replicate rs.length 0
def chain (rs : List (List ρ)) : Nat → List Int
  | 0 => zero rs
  | t + 1 => F m a rs (chain rs t)
variable {m a}
theorem at_mem {rs : List (List ρ)} {i : Int} {r : ρ} (h : r ∈ at_ rs i) : ∃ l ∈ rs, r ∈ l := by
  unfold at_ at h
  rw [List.getD_eq_getElem?_getD] at h
  by_cases hi : i.toNat < rs.length
  · rw [List.getElem?_eq_getElem hi] at h
    exact ⟨_, List.getElem_mem hi, h⟩
  · rw [List.getElem?_eq_none (by omega)] at h
    simp at h
theorem valid_at {rs : List (List ρ)} (hv : Valid m a rs) {i : Int} {r : ρ} (h : r ∈ at_ rs i) : small (m r) ∧ ∀ j ∈ a r, 0 ≤ j ∧ j < rs.length := by
  obtain ⟨l, hl, hr⟩ := at_mem h
  exact hv.2 l hl r hr
theorem der_bits {rs : List (List ρ)} (hv : Valid m a rs) {s : List Int} (hs : ∀ v ∈ s, small v) (i : Int) :
    small (der m a rs s i) ∧ ∀ k, (bit (der m a rs s i) k = true ↔ ∃ r ∈ at_ rs i, bit (m r) k = true ∧ ∀ j ∈ a r, bit (rd s j) k = true) := by
  have h := da_bits m a hs (at_ rs i) 0 small0 (fun r hr => (valid_at hv hr).1)
  refine ⟨h.1, fun k => ?_⟩
  have e := h.2 k
  rw [bit0] at e
  simpa [der] using e
theorem rd_F (rs : List (List ρ)) (s : List Int) (i : Int) : rd (F m a rs s) i = der m a rs s i := by
  unfold F der at_
  rw [rd_def, List.getD_eq_getElem?_getD, List.getD_eq_getElem?_getD, List.getElem?_map]
  cases rs[i.toNat]? <;> rfl
theorem F_len (rs : List (List ρ)) (s : List Int) : (F m a rs s).length = rs.length := by simp [F]
theorem F_small {rs : List (List ρ)} (hv : Valid m a rs) {s : List Int} (hs : ∀ v ∈ s, small v) : ∀ v ∈ F m a rs s, small v := by
  intro v h
  obtain ⟨l, hl, rfl⟩ := List.mem_map.1 h
  exact (da_bits m a hs l 0 small0 (fun r hr => (hv.2 l hl r hr).1)).1
theorem zero_small (rs : List (List ρ)) : ∀ v ∈ zero rs, small v := by
  intro v h
  rw [List.eq_of_mem_replicate h]
  exact small0
theorem rd_zero (rs : List (List ρ)) (i : Int) : rd (zero rs) i = 0 := by
  unfold zero
  rw [rd_def, List.getD_eq_getElem?_getD, List.getElem?_replicate]
  split <;> rfl
theorem chain_len (rs : List (List ρ)) : ∀ t, (chain m a rs t).length = rs.length
  | 0 => by simp [chain, zero]
  | t + 1 => F_len rs _
theorem chain_small {rs : List (List ρ)} (hv : Valid m a rs) : ∀ t, ∀ v ∈ chain m a rs t, small v
  | 0 => zero_small rs
  | t + 1 => F_small hv (chain_small hv t)
theorem der_mono {rs : List (List ρ)} (hv : Valid m a rs) {s t : List Int} (hs : ∀ v ∈ s, small v) (ht : ∀ v ∈ t, small v) (h : ∀ i, sub (rd s i) (rd t i)) (i : Int) : sub (der m a rs s i) (der m a rs t i) := by
  intro k hk
  obtain ⟨r, hr, h1, h2⟩ := ((der_bits hv hs i).2 k).1 hk
  exact ((der_bits hv ht i).2 k).2 ⟨r, hr, h1, fun j hj => h j k (h2 j hj)⟩
theorem chain_up {rs : List (List ρ)} (hv : Valid m a rs) : ∀ t i, sub (rd (chain m a rs t) i) (rd (chain m a rs (t + 1)) i)
  | 0, i => by
    show sub (rd (zero rs) i) _
    rw [rd_zero]
    exact sub0 _
  | t + 1, i => by
    show sub (rd (F m a rs _) i) (rd (F m a rs _) i)
    rw [rd_F, rd_F]
    exact der_mono hv (chain_small hv t) (chain_small hv (t + 1)) (chain_up hv t) i
/-- Kleene's rounds lie below every solution. -/
theorem chain_least {rs : List (List ρ)} (hv : Valid m a rs) {s : List Int} (hs : ∀ v ∈ s, small v) (h : ∀ i, sub (der m a rs s i) (rd s i)) : ∀ t i, sub (rd (chain m a rs t) i) (rd s i)
  | 0, i => by
    show sub (rd (zero rs) i) _
    rw [rd_zero]
    exact sub0 _
  | t + 1, i => by
    show sub (rd (F m a rs _) i) _
    rw [rd_F]
    exact sub_trans (der_mono hv (chain_small hv t) hs (chain_least hv hs h t) i) (h i)
end
/-! The sum of the sets, as numbers: it grows and has a bound. -/
def total (s : List Int) : Nat := (s.map Int.toNat).sum
theorem total_le : ∀ (s : List Int), (∀ v ∈ s, small v) → total s ≤ s.length * 1048576
  | [], _ => by simp [total]
  | v :: s, h => by
    have ih := total_le s (fun u hu => h u (by simp [hu]))
    have hv := h v (by simp)
    have := hv.1
    have := hv.2
    simp only [total, List.map_cons, List.sum_cons, List.length_cons] at ih ⊢
    omega
theorem total_lt : ∀ (x y : List Int), x.length = y.length → (∀ v ∈ x, small v) → (∀ v ∈ y, small v) → (∀ i, sub (rd x i) (rd y i)) → total x ≤ total y ∧ (x ≠ y → total x < total y)
  | [], [], _, _, _, _ => by simp [total]
  | [], _ :: _, h, _, _, _ => by simp at h
  | _ :: _, [], h, _, _, _ => by simp at h
  | u :: x, v :: y, h, hx, hy, hs => by
    have ih := total_lt x y (by simpa using h) (fun w hw => hx w (by simp [hw])) (fun w hw => hy w (by simp [hw])) (fun i => by
      have := hs ((i.toNat : Int) + 1)
      have e : ((i.toNat : Int) + 1).toNat = i.toNat + 1 := by omega
      simp only [rd_def, e, List.getD_cons_succ] at this
      exact this)
    have h0 : sub u v := by have := hs 0; simpa [rd_def] using this
    have hu := hx u (by simp)
    have hv := hy v (by simp)
    have le := sub_le hu.1 hv.1 h0
    have := hu.1
    simp only [total, List.map_cons, List.sum_cons] at ih ⊢
    refine ⟨by omega, fun hne => ?_⟩
    by_cases e : u = v
    · subst e
      have := ih.2 (fun e2 => hne (by rw [e2]))
      omega
    · omega
section
variable {ρ : Type} {m : ρ → Int} {a : ρ → List Int} {rs : List (List ρ)}
theorem stops_from (hv : Valid m a rs) : ∀ (d t : Nat), rs.length * 1048576 ≤ total (chain m a rs t) + d → ∃ M, t ≤ M ∧ chain m a rs (M + 1) = chain m a rs M
  | d, t, h => by
    by_cases e : chain m a rs (t + 1) = chain m a rs t
    · exact ⟨t, Nat.le_refl _, e⟩
    have l := (total_lt (chain m a rs t) (chain m a rs (t + 1)) (by rw [chain_len, chain_len]) (chain_small hv t) (chain_small hv _) (chain_up hv t)).2 (fun e2 => e e2.symm)
    have b := total_le (chain m a rs (t + 1)) (chain_small hv _)
    rw [chain_len] at b
    cases d with
    | zero => omega
    | succ d =>
      obtain ⟨M, h1, h2⟩ := stops_from hv d (t + 1) (by omega)
      exact ⟨M, by omega, h2⟩
theorem first_of (P : Nat → Prop) [DecidablePred P] : ∀ n, P n → ∃ k, k ≤ n ∧ P k ∧ ∀ j, j < k → ¬ P j
  | 0, h => ⟨0, Nat.le_refl _, h, fun j hj => by omega⟩
  | n + 1, h => by
    by_cases e : ∃ k, k ≤ n ∧ P k
    · obtain ⟨k, hk, pk⟩ := e
      have : k < n + 1 := by omega
      obtain ⟨j, h1, h2, h3⟩ := first_of P k pk
      exact ⟨j, by omega, h2, h3⟩
    · exact ⟨n + 1, Nat.le_refl _, h, fun j hj hp => e ⟨j, by omega, hp⟩⟩
termination_by n => n
/-- Kleene's rounds end: at the first that changes nothing. -/
theorem stops (hv : Valid m a rs) : ∃ M, chain m a rs (M + 1) = chain m a rs M ∧ (∀ t, t < M → chain m a rs (t + 1) ≠ chain m a rs t) ∧ M ≤ 62914560 := by
  obtain ⟨M, _, h⟩ := stops_from hv (rs.length * 1048576) 0 (by omega)
  obtain ⟨K, _, h1, h2⟩ := first_of (fun t => chain m a rs (t + 1) = chain m a rs t) M h
  refine ⟨K, h1, h2, ?_⟩
  have up : ∀ t, t ≤ K → t ≤ total (chain m a rs t) := by
    intro t
    induction t with
    | zero => intro _; omega
    | succ t ih =>
      intro ht
      have l := (total_lt (chain m a rs t) (chain m a rs (t + 1)) (by rw [chain_len, chain_len]) (chain_small hv t) (chain_small hv _) (chain_up hv t)).2 (fun e2 => h2 t (by omega) e2.symm)
      have := ih (by omega)
      omega
  have u := up K (Nat.le_refl _)
  have b := total_le (chain m a rs K) (chain_small hv _)
  rw [chain_len] at b
  have := hv.1
  omega
end
/-! The work list. -/
def push (p row : List Int) : List Int := row.foldl (fun p j => if j ∈ p then p else p ++ [j]) p
theorem push_cons (p : List Int) (j : Int) (row : List Int) : push p (j :: row) = push (if j ∈ p then p else p ++ [j]) row := rfl
theorem push_mem : ∀ (row p : List Int) (x : Int), x ∈ push p row ↔ x ∈ p ∨ x ∈ row
  | [], p, x => by simp [push]
  | j :: row, p, x => by
    rw [push_cons, push_mem row]
    by_cases h : j ∈ p
    · rw [if_pos h]
      simp only [List.mem_cons]
      constructor
      · rintro (h1 | h1)
        · exact .inl h1
        · exact .inr (.inr h1)
      · rintro (h1 | rfl | h1)
        · exact .inl h1
        · exact .inl h
        · exact .inr h1
    · rw [if_neg h]
      simp [or_assoc]
theorem nodup_snoc {p : List Int} {j : Int} (h : p.Nodup) (hj : j ∉ p) : (p ++ [j]).Nodup := by
  rw [List.nodup_append]
  refine ⟨h, by simp, fun x hx y hy => ?_⟩
  rw [List.mem_singleton] at hy
  intro e
  exact hj (by rw [← hy, ← e]; exact hx)
theorem push_nodup : ∀ (row p : List Int), p.Nodup → (push p row).Nodup
  | [], p, h => h
  | j :: row, p, h => by
    rw [push_cons]
    by_cases hj : j ∈ p
    · rw [if_pos hj]; exact push_nodup row p h
    · rw [if_neg hj]; exact push_nodup row _ (nodup_snoc h hj)
theorem short : ∀ (n : Nat) (l : List Int), l.Nodup → (∀ x ∈ l, 0 ≤ x ∧ x < n) → l.length ≤ n
  | 0, l, _, h => by
    cases l with
    | nil => simp
    | cons x l => have := h x (by simp); omega
  | n + 1, l, hn, h => by
    have ih := short n (l.erase n) (hn.erase _) (fun x hx => by
      have h1 := (List.Nodup.mem_erase_iff hn).1 hx
      have h2 := h x h1.2
      have : x ≠ (n : Int) := h1.1
      omega)
    by_cases e : (n : Int) ∈ l
    · rw [List.length_erase_of_mem e] at ih; omega
    · rw [List.erase_of_not_mem e] at ih; omega
/-- Who reads: set i is told of set j. -/
def tell (R : List (List Int)) (i j : Int) : List (List Int) := if i ∈ R.getD j.toNat [] then R else R.set j.toNat (R.getD j.toNat [] ++ [i])
def tells (R : List (List Int)) (i : Int) (js : List Int) : List (List Int) := js.foldl (fun R j => tell R i j) R
def RdGood (n : Nat) (R : List (List Int)) : Prop := R.length = n ∧ ∀ row ∈ R, row.Nodup ∧ ∀ x ∈ row, 0 ≤ x ∧ x < n
def Has (R : List (List Int)) (i j : Int) : Prop := i ∈ R.getD j.toNat []
theorem rdgood_row {n : Nat} {R : List (List Int)} (h : RdGood n R) (j : Int) : (R.getD j.toNat []).Nodup ∧ ∀ x ∈ R.getD j.toNat [], 0 ≤ x ∧ x < n := by
  rw [List.getD_eq_getElem?_getD]
  by_cases hj : j.toNat < R.length
  · rw [List.getElem?_eq_getElem hj]
    exact h.2 _ (List.getElem_mem hj)
  · rw [List.getElem?_eq_none (by omega)]
    simp
theorem getD_set {α : Type} (l : List α) (i j : Nat) (v d : α) (hi : i < l.length) : (l.set i v).getD j d = if i = j then v else l.getD j d := by
  rw [List.getD_eq_getElem?_getD, List.getD_eq_getElem?_getD, List.getElem?_set]
  by_cases e : i = j
  · subst e; simp [hi]
  · simp [e]
theorem tell_good {n : Nat} {R : List (List Int)} (h : RdGood n R) {i j : Int} (hi : 0 ≤ i ∧ i < n) : RdGood n (tell R i j) := by
  unfold tell
  by_cases e : i ∈ R.getD j.toNat []
  · rw [if_pos e]; exact h
  rw [if_neg e]
  refine ⟨by rw [List.length_set]; exact h.1, fun row hr => ?_⟩
  rcases List.mem_or_eq_of_mem_set hr with h1 | rfl
  · exact h.2 row h1
  have g := rdgood_row h j
  refine ⟨nodup_snoc g.1 e, fun x hx => ?_⟩
  rcases List.mem_append.1 hx with h1 | h1
  · exact g.2 x h1
  · rw [List.mem_singleton.1 h1]; exact hi
theorem tell_keeps {R : List (List Int)} {i j x y : Int} (h : Has R x y) : Has (tell R i j) x y := by
  unfold tell
  by_cases e : i ∈ R.getD j.toNat []
  · rw [if_pos e]; exact h
  rw [if_neg e]
  unfold Has at h ⊢
  by_cases hj : j.toNat < R.length
  · rw [getD_set _ _ _ _ _ hj]
    by_cases e2 : j.toNat = y.toNat
    · rw [if_pos e2, e2]; exact List.mem_append_left _ h
    · rw [if_neg e2]; exact h
  · rw [List.set_eq_of_length_le (by omega)]; exact h
theorem tell_does {n : Nat} {R : List (List Int)} (h : RdGood n R) {i j : Int} (hj : 0 ≤ j ∧ j < n) : Has (tell R i j) i j := by
  unfold tell
  by_cases e : i ∈ R.getD j.toNat []
  · rw [if_pos e]; exact e
  rw [if_neg e]
  unfold Has
  rw [getD_set _ _ _ _ _ (by have := h.1; omega), if_pos rfl]
  simp
theorem tells_good {n : Nat} {i : Int} (hi : 0 ≤ i ∧ i < n) : ∀ (js : List Int) (R : List (List Int)), RdGood n R → RdGood n (tells R i js)
  | [], R, h => h
  | j :: js, R, h => tells_good hi js _ (tell_good h hi)
theorem tells_keeps {i x y : Int} : ∀ (js : List Int) (R : List (List Int)), Has R x y → Has (tells R i js) x y
  | [], R, h => h
  | j :: js, R, h => tells_keeps js _ (tell_keeps h)
theorem tells_does {n : Nat} {i : Int} (hi : 0 ≤ i ∧ i < n) : ∀ (js : List Int) (R : List (List Int)), RdGood n R → (∀ j ∈ js, 0 ≤ j ∧ j < n) → ∀ j ∈ js, Has (tells R i js) i j
  | [], R, _, _, j, hj => by cases hj
  | j0 :: js, R, h, hr, j, hj => by
    rcases List.mem_cons.1 hj with rfl | h1
    · exact tells_keeps js _ (tell_does h (hr _ (by simp)))
    · exact tells_does hi js _ (tell_good h hi) (fun j hj => hr j (by simp [hj])) j h1
section
variable {ρ : Type} (a : ρ → List Int)
def tellAll (R : List (List Int)) (i : Int) (l : List ρ) : List (List Int) := l.foldl (fun R r => tells R i (a r)) R
def readers (R : List (List Int)) : Nat → List (List ρ) → List (List Int)
  | _, [] => R
  | i, l :: rs => readers (tellAll a R (i : Int) l) (i + 1) rs
variable {a}
theorem tellAll_good {n : Nat} {i : Int} (hi : 0 ≤ i ∧ i < n) : ∀ (l : List ρ) (R : List (List Int)), RdGood n R → RdGood n (tellAll a R i l)
  | [], R, h => h
  | r :: l, R, h => tellAll_good hi l _ (tells_good hi _ _ h)
theorem tellAll_keeps {i x y : Int} : ∀ (l : List ρ) (R : List (List Int)), Has R x y → Has (tellAll a R i l) x y
  | [], R, h => h
  | r :: l, R, h => tellAll_keeps l _ (tells_keeps _ _ h)
theorem tellAll_does {n : Nat} {i : Int} (hi : 0 ≤ i ∧ i < n) : ∀ (l : List ρ) (R : List (List Int)), RdGood n R → (∀ r ∈ l, ∀ j ∈ a r, 0 ≤ j ∧ j < n) → ∀ r ∈ l, ∀ j ∈ a r, Has (tellAll a R i l) i j
  | [], R, _, _, r, hr, _, _ => by cases hr
  | r0 :: l, R, h, hv, r, hr, j, hj => by
    rcases List.mem_cons.1 hr with rfl | h1
    · exact tellAll_keeps l _ (tells_does hi _ _ h (hv _ (by simp)) j hj)
    · exact tellAll_does hi l _ (tells_good hi _ _ h) (fun r hr => hv r (by simp [hr])) r h1 j hj
theorem readers_good {n : Nat} : ∀ (rs : List (List ρ)) (i : Nat) (R : List (List Int)), RdGood n R → i + rs.length ≤ n → RdGood n (readers a R i rs)
  | [], i, R, h, _ => h
  | l :: rs, i, R, h, hi => readers_good rs (i + 1) _ (tellAll_good (by simp at hi; omega) l R h) (by simp at hi; omega)
theorem readers_keeps {x y : Int} : ∀ (rs : List (List ρ)) (i : Nat) (R : List (List Int)), Has R x y → Has (readers a R i rs) x y
  | [], i, R, h => h
  | l :: rs, i, R, h => readers_keeps rs (i + 1) _ (tellAll_keeps l R h)
theorem readers_does {n : Nat} : ∀ (rs : List (List ρ)) (i : Nat) (R : List (List Int)), RdGood n R → i + rs.length ≤ n → (∀ l ∈ rs, ∀ r ∈ l, ∀ j ∈ a r, 0 ≤ j ∧ j < n) → ∀ q, q < rs.length → ∀ r ∈ rs.getD q [], ∀ j ∈ a r, Has (readers a R i rs) ((i + q : Nat) : Int) j
  | [], i, R, _, _, _, q, hq, _, _, _, _ => by simp at hq
  | l :: rs, i, R, h, hi, hv, q, hq, r, hr, j, hj => by
    have hi' : i + 1 + rs.length ≤ n := by simp at hi; omega
    have g := tellAll_good (a := a) (i := (i : Int)) (n := n) (by omega) l R h
    cases q with
    | zero => exact readers_keeps rs (i + 1) _ (tellAll_does (by omega) l R h (fun r hr => hv l (by simp) r hr) r hr j hj)
    | succ q =>
      have := readers_does rs (i + 1) _ g hi' (fun l hl => hv l (by simp [hl])) q (by simpa using hq) r (by simpa using hr) j hj
      rw [show i + 1 + q = i + (q + 1) by omega] at this
      exact this
end
section
variable {ρ : Type} {m : ρ → Int} {a : ρ → List Int} {rs : List (List ρ)}
structure Inv (m : ρ → Int) (a : ρ → List Int) (rs : List (List ρ)) (L s p : List Int) : Prop where
  len : s.length = rs.length
  sm : ∀ v ∈ s, small v
  low : ∀ i, sub (rd s i) (rd L i)
  nd : p.Nodup
  rng : ∀ x ∈ p, 0 ≤ x ∧ x < rs.length
  done : ∀ i : Int, 0 ≤ i → i < rs.length → i ∉ p → sub (der m a rs s i) (rd s i)
theorem der_out {s : List Int} {i : Int} (h : rs.length ≤ i.toNat) : der m a rs s i = 0 := by
  unfold der at_
  rw [List.getD_eq_getElem?_getD, List.getElem?_eq_none h]
  rfl
theorem rd_nat (s : List Int) (i : Int) : rd s i = rd s (i.toNat : Int) := by rw [rd_def, rd_def, Int.toNat_natCast]
theorem der_nat (s : List Int) (i : Int) : der m a rs s i = der m a rs s (i.toNat : Int) := by unfold der at_; rw [Int.toNat_natCast]
theorem Inv.ends {L s : List Int} (hv : Valid m a rs) {M : Nat} (hL : L = chain m a rs M) (h : Inv m a rs L s []) : s = L := by
  have up : ∀ i, sub (rd L i) (rd s i) := by
    rw [hL]
    refine chain_least hv h.sm (fun i => ?_) M
    by_cases hi : rs.length ≤ i.toNat
    · rw [der_out hi]; exact sub0 _
    · rw [rd_nat, der_nat]
      exact h.done _ (by omega) (by omega) (by simp)
  apply List.ext_getElem?
  intro q
  have ls := h.len
  have lL : L.length = rs.length := by rw [hL, chain_len]
  by_cases hq : q < rs.length
  · have e := sub_anti (rd_small h.sm q).1 (rd_small (hL ▸ chain_small hv M) q).1 (h.low q) (up q)
    simp only [rd_def, Int.toNat_natCast, List.getD_eq_getElem?_getD] at e
    rw [List.getElem?_eq_getElem (by omega), List.getElem?_eq_getElem (by omega)] at e ⊢
    simpa using e
  · rw [List.getElem?_eq_none (by omega), List.getElem?_eq_none (by omega)]
theorem Inv.skip {L s p : List Int} {i : Int} (hv : Valid m a rs) (h : Inv m a rs L s (i :: p)) (e : Go.bits .or .i64 (rd s i) (der m a rs s i) = rd s i) : Inv m a rs L s p where
  len := h.len
  sm := h.sm
  low := h.low
  nd := (List.nodup_cons.1 h.nd).2
  rng := fun x hx => h.rng x (by simp [hx])
  done := fun j h0 h1 hj => by
    by_cases ej : j = i
    · subst ej
      have := or_sub_r (rd_small h.sm j) (der_bits hv h.sm j).1
      rw [e] at this
      exact this
    · exact h.done j h0 h1 (by simp [ej, hj])
theorem rd_set (s : List Int) (i j : Int) (v : Int) (hi : 0 ≤ i) (hi' : i < s.length) (hj : 0 ≤ j) : rd (s.set i.toNat v) j = if i = j then v else rd s j := by
  rw [rd_def, rd_def, getD_set _ _ _ _ _ (by omega)]
  by_cases e : i = j
  · simp [e]
  · rw [if_neg (by omega), if_neg e]
theorem Inv.grow {L s p : List Int} {i : Int} {R : List (List Int)} (hv : Valid m a rs) (hL : ∀ i, sub (der m a rs L i) (rd L i)) (hLs : ∀ v ∈ L, small v) (h : Inv m a rs L s (i :: p)) (hR : RdGood rs.length R)
    (hc : ∀ q, q < rs.length → ∀ r ∈ at_ rs (q : Int), ∀ j ∈ a r, Has R (q : Int) j) :
    Inv m a rs L (s.set i.toNat (Go.bits .or .i64 (rd s i) (der m a rs s i))) (push p (R.getD i.toNat [])) := by
  have hi := h.rng i (by simp)
  have hds := (der_bits hv h.sm i).1
  have hes := (or_bits (rd_small h.sm i) hds).1
  have sm' : ∀ v ∈ s.set i.toNat (Go.bits .or .i64 (rd s i) (der m a rs s i)), small v := by
    intro v hv
    rcases List.mem_or_eq_of_mem_set hv with h1 | rfl
    · exact h.sm v h1
    · exact hes
  have rd' : ∀ j : Int, 0 ≤ j → rd (s.set i.toNat (Go.bits .or .i64 (rd s i) (der m a rs s i))) j = if i = j then Go.bits .or .i64 (rd s i) (der m a rs s i) else rd s j := fun j hj => rd_set _ _ _ _ hi.1 (by rw [h.len]; exact hi.2) hj
  refine ⟨by rw [List.length_set]; exact h.len, sm', fun j => ?_, push_nodup _ _ (List.nodup_cons.1 h.nd).2, fun x hx => ?_, fun j h0 h1 hj => ?_⟩
  · rw [rd_nat, rd' _ (by omega), rd_nat L]
    by_cases e : i = (j.toNat : Int)
    · rw [if_pos e, ← e]
      exact or_lub (rd_small h.sm i) hds (h.low i) (sub_trans (der_mono hv h.sm hLs h.low i) (hL i))
    · rw [if_neg e]; exact h.low _
  · rcases (push_mem _ _ _).1 hx with h1 | h1
    · exact h.rng x (by simp [h1])
    · exact (rdgood_row hR i).2 x h1
  · rw [push_mem] at hj
    have hne : j ∉ p ∧ j ∉ R.getD i.toNat [] := ⟨fun h => hj (.inl h), fun h => hj (.inr h)⟩
    -- j doesn't read i: it derives what it derived before
    have same : sub (der m a rs (s.set i.toNat (Go.bits .or .i64 (rd s i) (der m a rs s i))) j) (der m a rs s j) := by
      intro k hk
      obtain ⟨r, hr, h2, h3⟩ := ((der_bits hv sm' j).2 k).1 hk
      refine ((der_bits hv h.sm j).2 k).2 ⟨r, hr, h2, fun q hq => ?_⟩
      have h4 := h3 q hq
      have hq' := (valid_at hv hr).2 q hq
      rw [rd' q hq'.1] at h4
      by_cases e : i = q
      · exfalso
        have hj' : ((j.toNat : Nat) : Int) = j := by omega
        have := hc j.toNat (by omega) r (by rw [hj']; exact hr) q hq
        rw [hj', ← e] at this
        exact hne.2 this
      · rw [if_neg e] at h4; exact h4
    refine sub_trans same ?_
    rw [rd' j h0]
    by_cases e : i = j
    · rw [if_pos e, ← e]
      exact or_sub_r (rd_small h.sm i) hds
    · rw [if_neg e]
      exact h.done j h0 h1 (by simp [Ne.symm e, hne.1])
theorem Inv.total {L s p : List Int} {i : Int} (hv : Valid m a rs) (h : Inv m a rs L s (i :: p)) (e : Go.bits .or .i64 (rd s i) (der m a rs s i) ≠ rd s i) :
    FixMath.total s < FixMath.total (s.set i.toNat (Go.bits .or .i64 (rd s i) (der m a rs s i))) := by
  have hi := h.rng i (by simp)
  have hds := (der_bits hv h.sm i).1
  have hes := (or_bits (rd_small h.sm i) hds).1
  have hl := h.len
  refine (total_lt s _ (by rw [List.length_set]) h.sm (fun v hv => ?_) (fun j => ?_)).2 (fun e2 => e ?_)
  · rcases List.mem_or_eq_of_mem_set hv with h1 | rfl
    · exact h.sm v h1
    · exact hes
  · rw [rd_nat, rd_nat (s.set _ _), rd_set _ _ _ _ hi.1 (by omega) (by omega)]
    by_cases e : i = (j.toNat : Int)
    · rw [if_pos e, ← e]; exact or_sub_l (rd_small h.sm i) hds
    · rw [if_neg e]; exact sub_refl _
  · have := rd_set s i i (Go.bits .or .i64 (rd s i) (der m a rs s i)) hi.1 (by omega) hi.1
    rw [if_pos rfl, ← e2] at this
    exact this.symm
end
end Go.Proofs.Ytglckkkjfcomlaa.FixMath
