-- Written by gen.py (this repo's wip/), which runs the kit's print.py with more arms. Lean checks it.
import Derived.Test.YtofonbfpjfabbaaQDepgraphReductionx0
import Derived.Test.YtofonbfpjfabbaaQDepgraphReductionx1
import Derived.Test.YtofonbfpjfabbaaQDepgraphReductionx3
import Derived.Test.YtofonbfpjfabbaaQDepgraphReductionx4
namespace Go.Proofs.Ytofonbfpjfabbaa.QDepgraphReduction
open Go.RowKit Go.Proofs.YtofonbfpjfabbaaW.PrintWords Go.Proofs.YtofonbfpjfabbaaW.PrintLast Go.Proofs.YtofonbfpjfabbaaW.PrintMore
attribute [local go_sem] max2_int min2_int max_two min_two max_three min_three max_four min_four   -- for this text's walks alone
set_option linter.unusedVariables false
set_option linter.unusedSimpArgs false

section
open Go.Lib Go.Proofs.Ytofonbfpjfabbaa.Hand Go.Proofs.Ytofonbfpjfabbaa.Aid
instance : DecidableEq S24 := fun a b => if h : a.f0 = b.f0 ∧ a.f1 = b.f1 ∧ a.f2 = b.f2 then isTrue (by
    obtain ⟨x, y, z⟩ := a
    obtain ⟨x', y', z'⟩ := b
    obtain ⟨h1, h2, h3⟩ := h
    simp only at h1 h2 h3
    rw [h1, h2, h3]) else isFalse (fun e => h (by rw [e]; exact ⟨rfl, rfl, rfl⟩))
theorem S24.ext' {a b : S24} (h0 : a.f0 = b.f0) (h1 : a.f1 = b.f1) (h2 : a.f2 = b.f2) : a = b := by
  obtain ⟨x, y, z⟩ := a
  obtain ⟨x', y', z'⟩ := b
  simp only at h0 h1 h2
  rw [h0, h1, h2]
def encK (x : S24) : Value := .agg #[.int .i64 x.f0, .int .i64 x.f1, .int .i64 x.f2]
def rowK (x : S24) : List Value := [.int .i64 x.f0, .int .i64 x.f1, .int .i64 x.f2]
theorem keyLaw24 : KeyLaw Try.prog 24 encK where
  check := fun e x w => by
    have h : ∀ n, (Instr.checkKey e (n + 2) 24 (encK x)).run Try.prog w = .ok () w := by
      intro n
      unfold encK
      simp [Instr.checkKey, run_underlying Try.underlying24, run_underlying Try.underlying3, go_sem, Result.andThen]
    exact h 9998
  find := fun es xs x w h => by
    rw [run_findKey_eq w (by kernel_rfl)]
    have := findAsking_fidx (P := Try.prog) (kt := 24) (enc := encK) (fun x y w => by
      show (Op.equalIn (9998 + 2) 24 _ _).run Try.prog w = _
      rw [encK, encK, eqA24]
      congr 1
      rw [Bool.eq_iff_iff]
      obtain ⟨a, b, c⟩ := x
      obtain ⟨a', b', c'⟩ := y
      simp only [Bool.and_eq_true, beq_iff_eq, decide_eq_true_eq, S24.mk.injEq]
      constructor <;> rintro ⟨h1, h2, h3⟩ <;> exact ⟨h1.symm, h2.symm, h3.symm⟩) x es xs 0 w h
    simpa using this
  stays := fun x => by
    have h : ∀ n, Instr.sameBits (n + 2) (encK x) (encK x) = true := by
      intro n
      unfold encK
      simp [Instr.sameBits]
    exact h 9998
/-- The order of keys. -/
def ltK (a b : S24) : Bool := if a.f0 = b.f0 then (if a.f1 = b.f1 then decide (a.f2 < b.f2) else decide (a.f1 < b.f1)) else decide (a.f0 < b.f0)
theorem ltK_iff (a b : S24) : ltK a b = true ↔ a.f0 < b.f0 ∨ (a.f0 = b.f0 ∧ (a.f1 < b.f1 ∨ (a.f1 = b.f1 ∧ a.f2 < b.f2))) := by
  unfold ltK
  by_cases h0 : a.f0 = b.f0
  · rw [if_pos h0]
    by_cases h1 : a.f1 = b.f1
    · rw [if_pos h1, decide_eq_true_iff]; omega
    · rw [if_neg h1, decide_eq_true_iff]; omega
  · rw [if_neg h0, decide_eq_true_iff]; omega
theorem ordK : KOrd ltK where
  irrefl := fun a => by rw [Bool.eq_false_iff, Ne, ltK_iff]; omega
  trans := fun a b c h k => by rw [ltK_iff] at *; omega
  total := fun a b h k => by
    rw [Bool.eq_false_iff, Ne, ltK_iff] at h k
    exact S24.ext' (by omega) (by omega) (by omega)
/-- Three-way comparison of numbers, and of keys. -/
def cmpI (a b : Int) : Int := if a < b then -1 else if a > b then 1 else 0
def cmpK (a b : S24) : Int := if cmpI a.f0 b.f0 ≠ 0 then cmpI a.f0 b.f0 else if cmpI a.f1 b.f1 ≠ 0 then cmpI a.f1 b.f1 else cmpI a.f2 b.f2
theorem cmpI_f (a b : Int) : cmp_Compare_int.f a b = some (cmpI a b) := by
  unfold cmp_Compare_int.f cmp_isNaN_int.f cmpI
  have h1 : (a != a) = false := by simp
  have h2 : (b != b) = false := by simp
  rw [h1, h2]
  simp only [Option.bind_some, Bool.false_eq_true, if_false]
  by_cases c : a < b
  · rw [if_pos c, if_pos c]
  · rw [if_neg c, if_neg c]
    by_cases d : a > b
    · rw [if_pos d, if_pos d]
    · rw [if_neg d, if_neg d]
theorem or_f (k : Nat) (a b c : Int) : cmp_Or_int.f (k + 4) [a, b, c] = some (if a ≠ 0 then a else if b ≠ 0 then b else c) := by
  unfold cmp_Or_int.f
  have w1 : wrap64 (0 + 1) = 1 := wrap_id (by omega) (by omega)
  have w2 : wrap64 (1 + 1) = 2 := wrap_id (by omega) (by omega)
  have w3 : wrap64 (2 + 1) = 3 := wrap_id (by omega) (by omega)
  simp only [cmp_Or_int.l0, List.length_cons, List.length_nil]
  have r0 : rd [a, b, c] 0 = a := rfl
  have r1 : rd [a, b, c] 1 = b := rfl
  have r2 : rd [a, b, c] 2 = c := rfl
  simp only [w1, w2, w3, r0, r1, r2]
  by_cases h0 : a = 0
  · by_cases h1 : b = 0
    · by_cases h2 : c = 0
      · simp [h0, h1, h2]
      · simp [h0, h1, h2]
    · simp [h0, h1]
  · simp [h0]
theorem cmpK_f (k : Nat) (a b : S24) : depgraph_compareKeys.f (k + 4) a.f0 a.f1 a.f2 b.f0 b.f1 b.f2 = some (cmpK a b) := by
  unfold depgraph_compareKeys.f
  simp only [cmpI_f, Option.bind_some, or_f]
  rfl
theorem cmpK_neg (a b : S24) : cmpK a b < 0 ↔ ltK a b = true := by
  rw [ltK_iff]
  unfold cmpK cmpI
  repeat' split
  all_goals omega
theorem cmpK_zero (a b : S24) : cmpK a b = 0 ↔ a = b := by
  constructor
  · intro h
    unfold cmpK cmpI at h
    refine S24.ext' ?_ ?_ ?_ <;> (repeat' split at h) <;> omega
  · rintro rfl
    unfold cmpK cmpI
    simp
theorem tw_lenG {α : Type} (p : α → Bool) : ∀ (l : List α) (j : Nat), j ≤ l.length → (∀ m, m < j → ∀ y, l[m]? = some y → p y = true) → (∀ y, l[j]? = some y → p y = false) → l.takeWhile p = l.take j ∧ l.dropWhile p = l.drop j
  | [], j, hj, _, _ => by
    obtain rfl : j = 0 := by simpa using hj
    exact ⟨rfl, rfl⟩
  | y :: l, 0, _, _, h => by
    have h0 := h y (by rfl)
    simp [List.takeWhile_cons, List.dropWhile_cons, h0]
  | y :: l, j + 1, hj, h1, h2 => by
    have h0 := h1 0 (by omega) y rfl
    have ih := tw_lenG p l j (by simpa using hj) (fun m hm z hz => h1 (m + 1) (by omega) z (by simpa using hz)) (fun z hz => h2 z (by simpa using hz))
    simp [List.takeWhile_cons, List.dropWhile_cons, h0, ih.1, ih.2]
theorem rd24_at (l : List S24) (i : Nat) (h : i < l.length) : rd_T24 l (i : Int) = l[i] := by
  unfold rd_T24
  rw [Int.toNat_natCast, List.getD_eq_getElem?_getD, List.getElem?_eq_getElem h]
  rfl
/-- The place of a key in a sorted row. -/
def placeK (xs : List S24) (x : S24) : Nat := (xs.takeWhile (fun y => ltK y x)).length
theorem placeK_le (xs : List S24) (x : S24) : placeK xs x ≤ xs.length := by
  unfold placeK
  have h := congrArg List.length (List.takeWhile_append_dropWhile (p := fun y => ltK y x) (l := xs))
  rw [List.length_append] at h
  omega
theorem search_ev (xs : List S24) (x : S24) (hs : Srt ltK xs) (hl : xs.length < 1000000) : ∀ (n i j : Nat), j - i ≤ n → i ≤ j → j ≤ xs.length → (∀ m, m < i → ∀ y, xs[m]? = some y → ltK y x = true) → (∀ m, j ≤ m → ∀ y, xs[m]? = some y → ltK y x = false) →
    Ev (fun k => slices_BinarySearchFunc_46_at_39.l0 k xs (xs.length : Int) (i : Int) (j : Int) x.f0 x.f1 x.f2) ((placeK xs x : Int), decide (xs[placeK xs x]? = some x))
  | 0, i, j, hn, hij, hj, h1, h2 => by
    obtain rfl : i = j := by omega
    have hp : placeK xs x = i := by
      unfold placeK
      rw [(tw_lenG (fun y => ltK y x) xs i hj h1 (h2 i (Nat.le_refl _))).1, List.length_take, Nat.min_eq_left hj]
    rw [hp]
    refine Ev.step (f := fun k => if i < xs.length then ((depgraph_compareKeys.f k ((rd_T24 xs (i : Int)).f0) ((rd_T24 xs (i : Int)).f1) ((rd_T24 xs (i : Int)).f2) x.f0 x.f1 x.f2).bind fun t => some ((i : Int), (t == 0))) else some ((i : Int), false)) (fun k => ?_) ?_
    · simp only [slices_BinarySearchFunc_46_at_39.l0]
      rw [if_neg (by omega)]
      by_cases c : i < xs.length
      · rw [if_pos (by omega), if_pos (by omega), if_pos (by omega), if_pos c]
      · rw [if_neg (by omega), if_neg c]
    · by_cases c : i < xs.length
      · refine Ev.pos c ?_
        refine Ev.bind (Ev.stepK (f := fun k => depgraph_compareKeys.f (k + 1) ((rd_T24 xs (i : Int)).f0) ((rd_T24 xs (i : Int)).f1) ((rd_T24 xs (i : Int)).f2) x.f0 x.f1 x.f2) (Ev.stepK (f := fun k => depgraph_compareKeys.f (k + 2) ((rd_T24 xs (i : Int)).f0) ((rd_T24 xs (i : Int)).f1) ((rd_T24 xs (i : Int)).f2) x.f0 x.f1 x.f2) (Ev.stepK (f := fun k => depgraph_compareKeys.f (k + 3) ((rd_T24 xs (i : Int)).f0) ((rd_T24 xs (i : Int)).f1) ((rd_T24 xs (i : Int)).f2) x.f0 x.f1 x.f2) (Ev.some' (fun k => cmpK_f k (rd_T24 xs (i : Int)) x)) (fun k => rfl)) (fun k => rfl)) (fun k => rfl)) ?_
        have hb : (cmpK (rd_T24 xs (i : Int)) x == 0) = decide (xs[i]? = some x) := by
          rw [Bool.eq_iff_iff, beq_iff_eq, cmpK_zero, decide_eq_true_iff, rd24_at xs i c, List.getElem?_eq_getElem c]
          simp
        rw [hb]
        exact Ev.now _
      · have : decide (xs[i]? = some x) = false := by rw [List.getElem?_eq_none (by omega)]; simp
        rw [this]
        exact Ev.neg c (Ev.now _)
  | n + 1, i, j, hn, hij, hj, h1, h2 => by
    by_cases c : i = j
    · exact search_ev xs x hs hl 0 i j (by omega) hij hj h1 h2
    · obtain ⟨h, hh⟩ : ∃ h, (i + j) / 2 = h := ⟨_, rfl⟩
      have hih : i ≤ h := by omega
      have hhj : h < j := by omega
      have hw : wrap64 ((IntKind.u64.wrap (wrap64 ((i : Int) + (j : Int)))) / 2) = (h : Int) := by
        rw [wrap_id (n := (i : Int) + (j : Int)) (by omega) (by omega)]
        have : IntKind.u64.wrap ((i : Int) + (j : Int)) = (i : Int) + (j : Int) := by
          simp only [IntKind.wrap, IntKind.signed, IntKind.bits, Bool.false_and, Bool.false_eq_true, if_false]
          omega
        rw [this, wrap_id (by omega) (by omega)]
        omega
      have hw2 : wrap64 ((h : Int) + 1) = ((h + 1 : Nat) : Int) := by rw [wrap_id (by omega) (by omega)]; rfl
      have hhl : h < xs.length := by omega
      have hst : ∀ k, slices_BinarySearchFunc_46_at_39.l0 (k + 1) xs (xs.length : Int) (i : Int) (j : Int) x.f0 x.f1 x.f2 = ((depgraph_compareKeys.f k ((rd_T24 xs (h : Int)).f0) ((rd_T24 xs (h : Int)).f1) ((rd_T24 xs (h : Int)).f2) x.f0 x.f1 x.f2).bind fun t => if t < 0 then slices_BinarySearchFunc_46_at_39.l0 k xs (xs.length : Int) ((h + 1 : Nat) : Int) (j : Int) x.f0 x.f1 x.f2 else slices_BinarySearchFunc_46_at_39.l0 k xs (xs.length : Int) (i : Int) (h : Int) x.f0 x.f1 x.f2) := by
        intro k
        simp only [slices_BinarySearchFunc_46_at_39.l0, hw, hw2]
        rw [if_pos (by omega), if_pos (by omega), if_pos (by omega)]
      refine Ev.stepK ?_ hst
      refine Ev.bind (Ev.stepK (f := fun k => depgraph_compareKeys.f (k + 1) ((rd_T24 xs (h : Int)).f0) ((rd_T24 xs (h : Int)).f1) ((rd_T24 xs (h : Int)).f2) x.f0 x.f1 x.f2) (Ev.stepK (f := fun k => depgraph_compareKeys.f (k + 2) ((rd_T24 xs (h : Int)).f0) ((rd_T24 xs (h : Int)).f1) ((rd_T24 xs (h : Int)).f2) x.f0 x.f1 x.f2) (Ev.stepK (f := fun k => depgraph_compareKeys.f (k + 3) ((rd_T24 xs (h : Int)).f0) ((rd_T24 xs (h : Int)).f1) ((rd_T24 xs (h : Int)).f2) x.f0 x.f1 x.f2) (Ev.some' (fun k => cmpK_f k (rd_T24 xs (h : Int)) x)) (fun k => rfl)) (fun k => rfl)) (fun k => rfl)) ?_
      have hx : xs[h]? = some (rd_T24 xs (h : Int)) := by rw [rd24_at xs h hhl, List.getElem?_eq_getElem hhl]
      have hpw : ∀ (a b : Nat), a < b → ∀ y z, xs[a]? = some y → xs[b]? = some z → ltK y z = true := by
        intro a b hab y z hy hz
        obtain ⟨ha, rfl⟩ := List.getElem?_eq_some_iff.1 hy
        obtain ⟨hb, rfl⟩ := List.getElem?_eq_some_iff.1 hz
        exact List.pairwise_iff_getElem.1 hs a b ha hb hab
      by_cases d : cmpK (rd_T24 xs (h : Int)) x < 0
      · refine Ev.pos d ?_
        have hlt := (cmpK_neg _ _).1 d
        refine search_ev xs x hs hl n (h + 1) j (by omega) (by omega) hj (fun m hm y hy => ?_) h2
        rcases Nat.lt_or_ge m h with hm2 | hm2
        · exact ordK.trans _ _ _ (hpw m h hm2 y _ hy hx) hlt
        · obtain rfl : m = h := by omega
          rw [hx] at hy
          rw [← Option.some.inj hy]
          exact hlt
      · refine Ev.neg d ?_
        have hge : ltK (rd_T24 xs (h : Int)) x = false := by
          rw [Bool.eq_false_iff]
          exact fun hh => d ((cmpK_neg _ _).2 hh)
        refine search_ev xs x hs hl n i h (by omega) hih (by omega) h1 (fun m hm y hy => ?_)
        rcases Nat.lt_or_ge h m with hm2 | hm2
        · cases e : ltK y x with
          | false => rfl
          | true =>
            have := ordK.trans _ _ _ (hpw h m hm2 _ y hx hy) e
            rw [hge] at this
            cases this
        · obtain rfl : m = h := by omega
          rw [hx] at hy
          rw [← Option.some.inj hy]
          exact hge
theorem search_f (xs : List S24) (x : S24) (hs : Srt ltK xs) (hl : xs.length < 1000000) : ∃ k, slices_BinarySearchFunc_46_at_39.f k xs x.f0 x.f1 x.f2 = some ((placeK xs x : Int), decide (xs[placeK xs x]? = some x)) :=
  Ev.rounds (search_ev xs x hs hl xs.length 0 xs.length (by omega) (by omega) (Nat.le_refl _) (fun m hm => absurd hm (by omega)) (fun m hm y hy => by rw [List.getElem?_eq_none hm] at hy; cases hy))
theorem insK_place (xs : List S24) (x : S24) : insK ltK xs x = if xs[placeK xs x]? = some x then xs else xs.take (placeK xs x) ++ x :: xs.drop (placeK xs x) := by
  have hsp := List.takeWhile_append_dropWhile (p := fun y => ltK y x) (l := xs)
  have e1 : xs.takeWhile (fun y => ltK y x) = xs.take (placeK xs x) := by
    have := congrArg (List.take (placeK xs x)) hsp
    rw [List.take_append_of_le_length (by unfold placeK; exact Nat.le_refl _), List.take_of_length_le (by unfold placeK; exact Nat.le_refl _)] at this
    exact this
  have e2 : xs.dropWhile (fun y => ltK y x) = xs.drop (placeK xs x) := by
    have := congrArg (List.drop (placeK xs x)) hsp
    rw [List.drop_append_of_le_length (by unfold placeK; exact Nat.le_refl _), List.drop_eq_nil_of_le (by unfold placeK; exact Nat.le_refl _), List.nil_append] at this
    exact this
  unfold insK
  rw [e2]
  rw [show xs[(xs.takeWhile (fun y => ltK y x)).length]? = xs[placeK xs x]? from rfl, e1]
  by_cases c : xs[placeK xs x]? = some x
  · rw [if_neg (fun h => h c), if_pos c]
  · rw [if_pos c, if_neg c]
end
section
open Go.Lib Go.Proofs.Ytofonbfpjfabbaa.Hand Go.Proofs.Ytofonbfpjfabbaa.Aid
theorem run_copy_rowN {P : Program} (w : World) (dT sT ty elem : TypeId) (z : Nat) (g o dLen dCap : Nat) (a : Addr) (sLen sCap : Nat) (cur : Array Value) (t : TypeId) (cs : List Value)
    (hu : P.underlying dT = some (.slice elem)) (hs : (P.info? elem).map (·.size) = some z)
    (hg : w.heap[g]? = some (.cells cur t (0, 0))) (hn : cs.length = Nat.min sLen dLen * z)
    (hsrc : ∀ j v, cs[j]? = some v → w.cell? (a.add j) = some v) (hfit : o + cs.length ≤ cur.size) (h1 : ∀ v ∈ cs, v.oneCell' = true) :
    (Builtin.copy_ #[dT, sT] ty #[.slice (some ⟨g, o, none⟩) dLen dCap, .slice (some a) sLen sCap]).run P w =
      .ok (goInt (Nat.min sLen dLen)) (w.setRow g (cur.toList.take o ++ cs ++ cur.toList.drop (o + cs.length)).toArray) := by
  have hl := run_loadCells_list (P := P) w a cs hsrc
  have hst := run_storeCells_at P g o t cs 0 cur w hg (by simpa using hfit) h1
  cases hq : P.info? elem with
  | none => simp [hq] at hs
  | some i =>
    have hi : i.size = z := by simpa [hq] using hs
    simp [Builtin.copy_, run_underlying hu, Builtin.lenOf, Builtin.firstCells, sizeOf, typeInfo, hq, hi, ← hn, hl, hst]
theorem grown_setRow {w w1 : World} {g : Nat} (h : w.grownBy w1 (some g)) (cur : Array Value) : w.grownBy (w1.setRow g cur) (some g) :=
  ⟨h.os, h.tape, h.output, by simpa [World.setRow] using h.size, fun k hk hn => by
    rw [← h.block k hk hn]
    have : g ≠ k := fun e => hn (by rw [e])
    simp [World.setRow, Array.getElem?_modify, this]⟩
theorem setRow_far (w : World) (g k : Nat) (cur : Array Value) (h : g ≠ k) : (w.setRow g cur).heap[k]? = w.heap[k]? := by simp [World.setRow, Array.getElem?_modify, h]
/-- What an insertion leaves. -/
def InsPost (w : World) (base : Nat) (v : Value) (n : Nat) (xs' : List Value) (e : Ending) (w' : World) : Prop :=
  ∃ v', e = .returned v' ∧ w'.ownsRow base 24 3 v' (n + 1) xs' ∧ w.grownBy w' v.ownBlock ∧ (v'.ownBlock = v.ownBlock ∨ ∃ b, v'.ownBlock = some b ∧ w.heap.size ≤ b)
set_option maxHeartbeats 4000000 in
set_option maxRecDepth 100000 in
theorem insert_room (w : World) (base g n cap i gb : Nat) (cur : Array Value) (ys : List Value) (hys : ys.length = 3) (h1y : ∀ u ∈ ys, u.oneCell' = true) (hbase : base ≤ g)
    (hg : w.heap[g]? = some (.cells cur 24 (0, 0))) (hs : cur.size = cap * 3) (h1c : ∀ u ∈ cur.toList.take (n * 3), u.oneCell' = true) (hb : w.heap[gb]? = some (.cells ys.toArray 24 (0, 0))) (hne : gb ≠ g) (hi : i < n) (hroom : n + 1 ≤ cap) (hcap : cap ≤ maxLen) :
    Calls Try.prog 47 #[.slice (some ⟨g, 0, none⟩) n cap, .int .i64 i, .slice (some ⟨gb, 0, none⟩) 1 1] w (InsPost w base (.slice (some ⟨g, 0, none⟩) n cap) n ((cur.toList.take (n * 3)).take (i * 3) ++ ys ++ (cur.toList.take (n * 3)).drop (i * 3))) := by
  have hmx : cap ≤ 9223372036854775807 := hcap
  have hw1 : wrap64 ((n : Int) + 1) = ((n + 1 : Nat) : Int) := by rw [wrap_id (by omega) (by omega)]; rfl
  have hw2 : wrap64 ((i : Int) + 1) = ((i + 1 : Nat) : Int) := by rw [wrap_id (by omega) (by omega)]; rfl
  have hz2 : ((i : Int) == (n : Int)) = false := by rw [Bool.eq_false_iff, Ne, beq_iff_eq]; omega
  have hb1 : ¬ ((cap : Int) < ((n + 1 : Nat) : Int)) := by omega
  have hb2 : ((n + 1 : Nat) : Int) ≤ (cap : Int) := by omega
  have hb3 : ((i + 1 : Nat) : Int) ≤ ((n + 1 : Nat) : Int) := by omega
  have hb4 : (i : Int) ≤ ((n + 1 : Nat) : Int) := by omega
  have hb5 : (i : Int) ≤ (n : Int) := by omega
  have hb6 : ¬ (cap = i) := by omega
  have hb7 : ¬ (cap = i + 1) := by omega
  have hov : ∀ (lb cb : Nat), (callFunc 52 #[.slice (some ⟨gb, 0, none⟩) 1 1, .slice (some ⟨g, (i + 1) * 3, none⟩) lb cb]).run Try.prog w = .ok (.value (.bool false)) w := fun lb cb => by
    rw [run_callFunc_extern Try.func52 (by kernel_rfl) (by kernel_rfl) (by kernel_rfl) (e := Extern.SlicesOverlaps.overlaps #[27, 27] #[4]) (by kernel_rfl),
      Lib.run_overlaps_apart w 27 4 24 Try.underlying27 3 (fun w => by go_simp) ⟨gb, 0, none⟩ ⟨g, (i + 1) * 3, none⟩ 1 1 lb cb hne 24 24 ys.toArray.size cur.size (by simp [World.shape?, hb]) (by simp [World.shape?, hg]) (by omega) (by simp [World.frozen?, hb]) (by simp [World.frozen?, hb])]
    rfl
  obtain ⟨L, hL⟩ : ∃ L, L = cur.toList := ⟨_, rfl⟩
  have hLl : L.length = cap * 3 := by rw [hL]; simpa using hs
  rw [← hL] at h1c ⊢
  obtain ⟨C, hC⟩ : ∃ C, C = (L.take (n * 3)).drop (i * 3) := ⟨_, rfl⟩
  have hCl : C.length = (n - i) * 3 := by rw [hC, List.length_drop, List.length_take, hLl, Nat.sub_mul]; omega
  have hCj : ∀ j v, C[j]? = some v → L[i * 3 + j]? = some v := fun j v hj => by
    rw [hC, List.getElem?_drop, List.getElem?_take] at hj
    split at hj
    · exact hj
    · cases hj
  obtain ⟨C1, hC1⟩ : ∃ C1, C1 = (L.take ((i + 1) * 3) ++ C ++ L.drop ((i + 1) * 3 + C.length)).toArray := ⟨_, rfl⟩
  have hcp1 : ∀ ty dc sc, (Builtin.copy_ #[27, 27] ty #[.slice (some ⟨g, (i + 1) * 3, none⟩) (n - i) dc, .slice (some ⟨g, i * 3, none⟩) (n + 1 - i) sc]).run Try.prog w.drew = .ok (goInt (Nat.min (n + 1 - i) (n - i))) (w.drew.setRow g C1) := fun ty dc sc => by
    rw [hC1, hL]
    exact run_copy_rowN w.drew 27 27 ty 24 3 g ((i + 1) * 3) _ dc ⟨g, i * 3, none⟩ _ sc cur 24 C Try.underlying27 (by kernel_rfl) hg (by rw [hCl]; simp only [Nat.min_def]; split <;> omega)
      (fun j v hj => by
        rw [Addr.add_lit]
        refine (cell_of_row w.drew g _ cur 24 (0, 0) hg).trans ?_
        rw [← Array.getElem?_toList, ← hL]
        exact hCj j v hj) (by rw [hCl, hs]; omega) (fun v hv => h1c v (by rw [hC] at hv; exact List.mem_of_mem_drop hv))
  have hC1l : C1.size = cap * 3 := by
    rw [hC1]
    simp only [List.size_toArray, List.length_append, List.length_take, List.length_drop, hCl, hLl]
    omega
  obtain ⟨C2, hC2⟩ : ∃ C2, C2 = (C1.toList.take (i * 3) ++ ys ++ C1.toList.drop (i * 3 + ys.length)).toArray := ⟨_, rfl⟩
  have hcp2 : ∀ ty dc, (Builtin.copy_ #[27, 27] ty #[.slice (some ⟨g, i * 3, none⟩) (n + 1 - i) dc, .slice (some ⟨gb, 0, none⟩) 1 1]).run Try.prog (w.drew.setRow g C1) = .ok (goInt (Nat.min 1 (n + 1 - i))) ((w.drew.setRow g C1).setRow g C2) := fun ty dc => by
    rw [hC2]
    exact run_copy_rowN (w.drew.setRow g C1) 27 27 ty 24 3 g (i * 3) _ dc ⟨gb, 0, none⟩ 1 1 C1 24 ys Try.underlying27 (by kernel_rfl) (setRow_heap w.drew g cur C1 24 (0, 0) hg) (by rw [hys]; simp only [Nat.min_def]; split <;> omega)
      (fun j v hj => by
        rw [Addr.add_lit]
        refine (cell_of_row (w.drew.setRow g C1) gb _ ys.toArray 24 (0, 0) ((setRow_far w.drew g gb C1 (Ne.symm hne)).trans hb)).trans ?_
        simpa using hj) (by rw [hys, hC1l]; omega) h1y
  have hend : InsPost w base (.slice (some ⟨g, 0, none⟩) n cap) n (L.take (i * 3) ++ (ys ++ C)) (.returned (.slice (some ⟨g, 0, none⟩) (n + 1) cap)) ((w.drew.setRow g C1).setRow g C2) := by
    have hl1 : (L.take ((i + 1) * 3)).length = i * 3 + 3 := by rw [List.length_take, hLl, Nat.min_eq_left (by omega)]; omega
    have e1 : C1.toList.take (i * 3) = L.take (i * 3) := by
      rw [hC1, List.append_assoc, List.take_append_of_le_length (by rw [hl1]; omega), List.take_take, Nat.min_eq_left (by omega)]
    have e2 : C1.toList.drop (i * 3 + ys.length) = C ++ L.drop ((i + 1) * 3 + C.length) := by
      rw [hC1, List.append_assoc, hys, ← hl1, List.drop_left]
    refine ⟨_, rfl, ⟨?_, .inr ⟨g, cap, C2, rfl, hbase, setRow_heap _ g C1 C2 24 (0, 0) (setRow_heap w.drew g cur C1 24 (0, 0) hg), hroom, hcap, ?_, ?_⟩⟩, show w.grownBy _ (some g) from grown_setRow (grown_setRow (w := w) (w1 := w.drew) ⟨rfl, rfl, rfl, Nat.le_refl _, fun _ _ _ => rfl⟩ C1) C2, .inl rfl⟩
    · rw [List.length_append, List.length_append, List.length_take, hys, hCl, hLl]; omega
    · rw [hC2, e1, e2]
      simp only [List.size_toArray, List.length_append, List.length_take, List.length_drop, hCl, hLl, hys]
      omega
    · rw [hC2, e1, e2]
      have hl : (L.take (i * 3) ++ ys ++ C).length = (n + 1) * 3 := by rw [List.length_append, List.length_append, List.length_take, hys, hCl, hLl]; omega
      rw [← List.append_assoc, ← hl, List.take_left, List.append_assoc]
  have hT : (L.take (n * 3)).take (i * 3) = L.take (i * 3) := by rw [List.take_take, Nat.min_eq_left (by omega)]
  rw [hT, ← hC]
  clear hC1 hC2 hC1l hCl hCj hC hL
  have mixed : Try.prog.follows Departure.mixedOrders = true := by kernel_rfl
  have hc1 : (0 : Int) ≤ (i : Int) + 1 := by omega
  have hc2 : ((i : Int) + 1).toNat = i + 1 := by omega
  have hc3 : (i : Int) ≤ (n : Int) + 1 := by omega
  have hc4 : (n : Int) + 1 ≤ (cap : Int) := by omega
  have hc5 : i ≤ n := by omega
  have hc6 : IntKind.i64.wrap ((i : Int) + 1) = (i : Int) + 1 := by rw [IntKind.wrap_i64]; omega
  go_enter Try.func47, Try.ntmps47
  go_wp2_with (simp only [hov])
  go_region_law_o (refine step_copy_runI rfl _ _ 27 27 rfl _ _ (by simp [Act.eval, Act.put]) (by simp [Act.eval, Act.put]) (hcp1 _ _ _) ?_)
  go_wp2_with (at_builtin; refine wpList_copy_runI _ rfl _ _ 27 27 rfl _ _ rfl rfl (hcp2 _ _) ?_)
  go_ret
  rw [List.append_assoc]
  exact hend
set_option maxHeartbeats 4000000 in
set_option maxRecDepth 100000 in
theorem insert_grow (w : World) (base g n cap i gb : Nat) (cur : Array Value) (ys : List Value) (hys : ys.length = 3) (h1y : ∀ u ∈ ys, u.oneCell' = true) (hbase : base ≤ g)
    (hg : w.heap[g]? = some (.cells cur 24 (0, 0))) (hs : cur.size = cap * 3) (h1c : ∀ u ∈ cur.toList.take (n * 3), u.oneCell' = true) (hb : w.heap[gb]? = some (.cells ys.toArray 24 (0, 0))) (hne : gb ≠ g) (hi : i < n) (hnc : n ≤ cap) (hroom : cap < n + 1) (hbig : (n + 1) * 24 ≤ 140737488355328) :
    Calls Try.prog 47 #[.slice (some ⟨g, 0, none⟩) n cap, .int .i64 i, .slice (some ⟨gb, 0, none⟩) 1 1] w (InsPost w base (.slice (some ⟨g, 0, none⟩) n cap) n ((cur.toList.take (n * 3)).take (i * 3) ++ ys ++ (cur.toList.take (n * 3)).drop (i * 3))) := by
  have hmx : cap ≤ 9223372036854775807 := by omega
  have hw1 : wrap64 ((n : Int) + 1) = ((n + 1 : Nat) : Int) := by rw [wrap_id (by omega) (by omega)]; rfl
  have hw2 : wrap64 ((i : Int) + 1) = ((i + 1 : Nat) : Int) := by rw [wrap_id (by omega) (by omega)]; rfl
  have hw4 : wrap64 ((n : Int) + 1 - (i : Int)) = (n : Int) + 1 - (i : Int) := by rw [wrap_id (by omega) (by omega)]
  have hz2 : ((i : Int) == (n : Int)) = false := by rw [Bool.eq_false_iff, Ne, beq_iff_eq]; omega
  have hb1 : (cap : Int) < ((n + 1 : Nat) : Int) := by omega
  have hb2 : (cap : Int) < (n : Int) + 1 := by omega
  have hb5 : (i : Int) ≤ (n : Int) := by omega
  have hb6 : ¬ (cap = i) := by omega
  obtain ⟨L, hL⟩ : ∃ L, L = cur.toList := ⟨_, rfl⟩
  have hLl : L.length = cap * 3 := by rw [hL]; simpa using hs
  rw [← hL] at h1c ⊢
  have hgw : g < w.heap.size := lt_of_blk hg
  have hbw : gb < w.heap.size := lt_of_blk hb
  obtain ⟨i0, hi0, hzz⟩ := Option.map_eq_some_iff.1 (show (Try.prog.info? 24).map (fun i => (i.zero, i.size, i.bytes)) = some (some (.agg #[.int .i64 0, .int .i64 0, .int .i64 0]), 3, 24) by kernel_rfl)
  simp only [Prod.mk.injEq] at hzz
  obtain ⟨hz0, hzs, hzb⟩ := hzz
  have hold : (Builtin.firstCells i0.size i (.slice (some ⟨g, 0, none⟩) i cap)).run Try.prog w.drew = .ok (L.take (i * 3)).toArray w.drew := by
    rw [hzs]
    exact run_firstCells_some w.drew 3 i ⟨g, 0, none⟩ i cap (L.take (i * 3)) (by rw [List.length_take, hLl]; omega) (fun j v hj => by
      rw [Addr.add_lit, Nat.zero_add]
      refine (cell_of_row w.drew g _ cur 24 (0, 0) hg).trans ?_
      rw [← Array.getElem?_toList, ← hL]
      rw [List.getElem?_take] at hj
      split at hj
      · exact hj
      · cases hj)
  have hik : i + (n + 1 - i) = n + 1 := by omega
  have hrz : ∀ ty, (Builtin.append_ #[27, 3] ty #[.slice (some ⟨g, 0, none⟩) i cap, .int .i64 ((n + 1 - i : Nat) : Int)]).run Try.prog w =
      .ok (.slice (some ⟨w.heap.size, 0, none⟩) (n + 1) (grownCap w (n + 1) cap 24)) (w.drew.alloc (.cells ((L.take (i * 3)).toArray ++ Builtin.zeroCells (Value.agg #[.int .i64 0, .int .i64 0, .int .i64 0]).cells (n + 1 - i) ++ Builtin.zeroCells (Value.agg #[.int .i64 0, .int .i64 0, .int .i64 0]).cells (grownCap w (n + 1) cap 24 - (n + 1))) 24)) := fun ty => by
    have h := Lib.run_append_grow_zeros w 27 3 ty 24 i0 _ .i64 .i64 Try.underlying27 Try.underlying3 hi0 hz0 (some ⟨g, 0, none⟩) i cap (L.take (i * 3)) hold (n + 1 - i) (by omega) (by omega) (by omega) (by omega) (by rw [hzb]; omega) (by rw [hzb, hik]; exact growslice_fits hroom hbig)
    rw [hik] at h
    exact h
  obtain ⟨G, hG⟩ : ∃ G, G = grownCap w (n + 1) cap 24 := ⟨_, rfl⟩
  have hGn : n + 1 ≤ G := by rw [hG]; exact grownCap_ge w _ _ _
  have hGm : G ≤ maxLen := by rw [hG]; exact grownCap_le_maxLen w _ _ _ (by unfold maxLen; omega)
  rw [← hG] at hrz
  clear hG hold hik
  obtain ⟨Z, hZ⟩ : ∃ Z : List Value, Z = (Builtin.zeroCells (Value.agg #[.int .i64 0, .int .i64 0, .int .i64 0]).cells (n + 1 - i) ++ Builtin.zeroCells (Value.agg #[.int .i64 0, .int .i64 0, .int .i64 0]).cells (G - (n + 1))).toList := ⟨_, rfl⟩
  have hZl : Z.length = (G - i) * 3 := by
    rw [hZ]
    have hzc : ∀ k, (Builtin.zeroCells (Value.agg #[.int .i64 0, .int .i64 0, .int .i64 0]).cells k).size = k * 3 := fun k => by
      simp [Builtin.zeroCells, Value.cells]
    rw [Array.length_toList, Array.size_append, hzc, hzc, ← Nat.add_mul]
    congr 1
    omega
  have hrz2 : ∀ ty, (Builtin.append_ #[27, 3] ty #[.slice (some ⟨g, 0, none⟩) i cap, .int .i64 ((n : Int) + 1 - (i : Int))]).run Try.prog w =
      .ok (.slice (some ⟨w.heap.size, 0, none⟩) (n + 1) G) (w.drew.alloc (.cells (L.take (i * 3) ++ Z).toArray 24)) := fun ty => by
    rw [show (n : Int) + 1 - (i : Int) = ((n + 1 - i : Nat) : Int) by omega, hrz ty, hZ]
    congr 3
    simp [Array.append_assoc]
  clear hrz hZ
  obtain ⟨C, hC⟩ : ∃ C, C = (L.take (n * 3)).drop (i * 3) := ⟨_, rfl⟩
  have hCl : C.length = (n - i) * 3 := by rw [hC, List.length_drop, List.length_take, hLl, Nat.sub_mul]; omega
  have hCj : ∀ j v, C[j]? = some v → L[i * 3 + j]? = some v := fun j v hj => by
    rw [hC, List.getElem?_drop, List.getElem?_take] at hj
    split at hj
    · exact hj
    · cases hj
  obtain ⟨R1, hR1⟩ : ∃ R1 : Array Value, R1 = (L.take (i * 3) ++ Z).toArray := ⟨_, rfl⟩
  have hR1l : R1.size = G * 3 := by rw [hR1]; simp only [List.size_toArray, List.length_append, List.length_take, hLl, hZl]; omega
  obtain ⟨R2, hR2⟩ : ∃ R2, R2 = (R1.toList.take (i * 3) ++ ys ++ R1.toList.drop (i * 3 + ys.length)).toArray := ⟨_, rfl⟩
  have hR2l : R2.size = G * 3 := by
    rw [hR2]
    simp only [List.size_toArray, List.length_append, List.length_take, List.length_drop, Array.length_toList, hR1l, hys]
    omega
  obtain ⟨R3, hR3⟩ : ∃ R3, R3 = (R2.toList.take ((i + 1) * 3) ++ C ++ R2.toList.drop ((i + 1) * 3 + C.length)).toArray := ⟨_, rfl⟩
  rw [← hR1] at hrz2
  have hn1 : (w.drew.alloc (.cells R1 24)).heap[w.heap.size]? = some (.cells R1 24 (0, 0)) := heap_alloc_new w.drew _
  have hold : ∀ k, k < w.heap.size → (w.drew.alloc (.cells R1 24)).heap[k]? = w.heap[k]? := fun k hk => heap_alloc_old w.drew _ hk
  have hcpA : ∀ (W : World), W.heap = (w.drew.alloc (.cells R1 24)).heap → ∀ ty dc, (Builtin.copy_ #[27, 27] ty #[.slice (some ⟨w.heap.size, i * 3, none⟩) (n + 1 - i) dc, .slice (some ⟨gb, 0, none⟩) 1 1]).run Try.prog W = .ok (goInt (Nat.min 1 (n + 1 - i))) (W.setRow w.heap.size R2) := fun W hW ty dc => by
    rw [hR2]
    exact run_copy_rowN W 27 27 ty 24 3 w.heap.size (i * 3) _ dc ⟨gb, 0, none⟩ 1 1 R1 24 ys Try.underlying27 (by kernel_rfl) (by rw [hW]; exact hn1) (by rw [hys]; simp only [Nat.min_def]; split <;> omega)
      (fun j v hj => by
        rw [Addr.add_lit]
        refine (cell_of_row W gb _ ys.toArray 24 (0, 0) (by rw [hW]; exact (hold gb hbw).trans hb)).trans ?_
        simpa using hj) (by rw [hys, hR1l]; omega) h1y
  have hcpB : ∀ (W : World), W.heap = ((w.drew.alloc (.cells R1 24)).setRow w.heap.size R2).heap → ∀ ty dc sc, (Builtin.copy_ #[27, 27] ty #[.slice (some ⟨w.heap.size, (i + 1) * 3, none⟩) (n - i) dc, .slice (some ⟨g, i * 3, none⟩) (n - i) sc]).run Try.prog W = .ok (goInt (Nat.min (n - i) (n - i))) (W.setRow w.heap.size R3) := fun W hW ty dc sc => by
    rw [hR3]
    exact run_copy_rowN W 27 27 ty 24 3 w.heap.size ((i + 1) * 3) _ dc ⟨g, i * 3, none⟩ _ sc R2 24 C Try.underlying27 (by kernel_rfl) (by rw [hW]; exact setRow_heap _ w.heap.size R1 R2 24 (0, 0) hn1) (by rw [hCl]; simp only [Nat.min_def]; split <;> omega)
      (fun j v hj => by
        rw [Addr.add_lit]
        refine (cell_of_row W g _ cur 24 (0, 0) (by rw [hW]; exact (setRow_far _ w.heap.size g R2 (by omega)).trans ((hold g hgw).trans hg))).trans ?_
        rw [← Array.getElem?_toList, ← hL]
        exact hCj j v hj) (by rw [hCl, hR2l]; omega) (fun v hv => h1c v (by rw [hC] at hv; exact List.mem_of_mem_drop hv))
  have hend : ∀ W : World, W.heap = ((w.drew.alloc (.cells R1 24)).setRow w.heap.size R2).heap → W.os = w.os → W.tape = w.tape → W.output = w.output → InsPost w base (.slice (some ⟨g, 0, none⟩) n cap) n (L.take (i * 3) ++ ys ++ C) (.returned (.slice (some ⟨w.heap.size, 0, none⟩) (n + 1) G)) (W.setRow w.heap.size R3) := fun W hW ho ht hp => by
    have hl1 : (L.take (i * 3)).length = i * 3 := by rw [List.length_take, hLl, Nat.min_eq_left (by omega)]
    have e1 : R1.toList.take (i * 3) = L.take (i * 3) := by
      rw [hR1, List.take_append_of_le_length (by rw [hl1]; omega), List.take_take, Nat.min_self]
    have e2 : R2.toList.take ((i + 1) * 3) = L.take (i * 3) ++ ys := by
      have hl2 : (L.take (i * 3) ++ ys).length = (i + 1) * 3 := by rw [List.length_append, hl1, hys]; omega
      rw [hR2, e1, ← hl2, List.take_left]
    refine ⟨_, rfl, ⟨?_, .inr ⟨w.heap.size, G, R3, rfl, by omega, setRow_heap _ _ R2 R3 24 (0, 0) (by rw [hW]; exact setRow_heap _ w.heap.size R1 R2 24 (0, 0) hn1), hGn, hGm, ?_, ?_⟩⟩, ⟨ho, ht, hp, ?_, fun k hk hn => ?_⟩, .inr ⟨_, rfl, Nat.le_refl _⟩⟩
    · rw [List.length_append, List.length_append, hl1, hys, hCl]; omega
    · rw [hR3, e2]
      simp only [List.size_toArray, List.length_append, List.length_drop, hCl, hl1, hys, Array.length_toList, hR2l]
      omega
    · have hl : (L.take (i * 3) ++ ys ++ C).length = (n + 1) * 3 := by rw [List.length_append, List.length_append, hl1, hys, hCl]; omega
      rw [hR3, e2, ← hl, List.take_left]
    · have : (W.setRow w.heap.size R3).heap.size = W.heap.size := by simp [World.setRow]
      rw [this, hW]
      simp [World.setRow]
    · rw [setRow_far _ _ _ _ (by omega), hW, setRow_far _ _ _ _ (by omega)]
      exact hold k hk
  have hT : (L.take (n * 3)).take (i * 3) = L.take (i * 3) := by rw [List.take_take, Nat.min_eq_left (by omega)]
  rw [hT, ← hC]
  clear hR1 hR2 hR3 hR1l hR2l hCl hCj hC hL hn1 hold hZl hi0 hz0 hzs hzb
  have mixed : Try.prog.follows Departure.mixedOrders = true := by kernel_rfl
  have hc1 : (0 : Int) ≤ (i : Int) + 1 := by omega
  have hc2 : ((i : Int) + 1).toNat = i + 1 := by omega
  have hc3 : (i : Int) ≤ (n : Int) + 1 := by omega
  have hc5 : i ≤ n := by omega
  have hc6 : IntKind.i64.wrap ((i : Int) + 1) = (i : Int) + 1 := by rw [IntKind.wrap_i64]; omega
  have hc7 : ¬ (G = i) := by omega
  have hc8 : ¬ (G = i + 1) := by omega
  have hc9 : ((i + 1 : Nat) : Int) ≤ ((n + 1 : Nat) : Int) := by omega
  have hc10 : G ≤ 9223372036854775807 := hGm
  have hE : ((w.alloc (.cells R1 24)).drew).heap = (w.drew.alloc (.cells R1 24)).heap := rfl
  have hF : (((w.alloc (.cells R1 24)).drew.setRow w.heap.size R2).drew).heap = ((w.drew.alloc (.cells R1 24)).setRow w.heap.size R2).heap := rfl
  go_enter Try.func47, Try.ntmps47
  go_wp2_with (first
    | (at_builtin; refine Lib.wpList_append_run _ rfl _ _ _ _ rfl _ _ rfl rfl _ _ (hrz2 _) ?_)
    | (at_builtin; refine wpList_copy_runI _ rfl _ _ 27 27 rfl _ _ rfl rfl (hcpA _ hE _ _) ?_))
  go_region_law_o (refine step_copy_runI rfl _ _ 27 27 rfl (.slice (some ⟨w.heap.size, (i + 1) * 3, none⟩) (n - i) (G - (i + 1))) (.slice (some ⟨g, i * 3, none⟩) (n - i) (cap - i)) (by simp [Act.eval, Act.put]) (by simp [Act.eval, Act.put]) (hcpB _ hF _ _ _) ?_)
  go_wp2
  go_ret
  exact hend _ hF rfl rfl rfl
set_option maxHeartbeats 4000000 in
set_option maxRecDepth 100000 in
theorem insert_end (w : World) (base n gb : Nat) (v : Value) (xs ys : List Value) (hys : ys.length = 3) (h1y : ∀ u ∈ ys, u.oneCell' = true) (hbase : base ≤ w.heap.size)
    (HO : w.ownsRow base 24 3 v n xs) (hb : w.heap[gb]? = some (.cells ys.toArray 24 (0, 0))) (hbig : (n + 1) * 24 ≤ 140737488355328) :
    Calls Try.prog 47 #[v, .int .i64 n, .slice (some ⟨gb, 0, none⟩) 1 1] w (InsPost w base v n (xs ++ ys)) := by
  obtain ⟨i0, hi0, hzz⟩ := Option.map_eq_some_iff.1 (show (Try.prog.info? 24).map (fun i => (i.zero, i.size, i.bytes)) = some (some (.agg #[.int .i64 0, .int .i64 0, .int .i64 0]), 3, 24) by kernel_rfl)
  simp only [Prod.mk.injEq] at hzz
  obtain ⟨hz0, hzs, hzb⟩ := hzz
  have hnew : ∀ j u, ys[j]? = some u → w.cell? ((⟨gb, 0, none⟩ : Addr).add j) = some u := fun j u hj => by
    rw [Addr.add_lit]
    refine (cell_of_row w gb _ ys.toArray 24 (0, 0) hb).trans ?_
    simpa using hj
  have hz2 : ((n : Int) == (n : Int)) = true := by simp
  have HO' := HO
  obtain ⟨hl, hc⟩ := HO
  rcases hc with ⟨rfl, rfl⟩ | ⟨g, cap, cur, rfl, hg0, hg, hnc, hmc, hcs, ht⟩
  · go_enter Try.func47, Try.ntmps47
    go_wp2_with (at_builtin; refine wpList_append_own_at w rfl _ _ 27 rfl base 24 i0 _ 3 24 Try.underlying27 hi0 hz0 hzs hzb rfl (by omega) _ 0 xs rfl HO' ⟨gb, 0, none⟩ 1 1 ys rfl (by rw [hys]) hnew h1y (by simp only [maxLen]; omega) hbig hbase ?_; intro v1 w1 hown hgr _ hat)
    go_ret
    exact ⟨v1, rfl, hown, hgr, hat.imp_right (fun h => ⟨_, h, Nat.le_refl _⟩)⟩
  · have hmx : cap ≤ 9223372036854775807 := hmc
    have hb5 : (n : Int) ≤ (cap : Int) := by omega
    go_enter Try.func47, Try.ntmps47
    go_wp2_with (at_builtin; refine wpList_append_own_at w rfl _ _ 27 rfl base 24 i0 _ 3 24 Try.underlying27 hi0 hz0 hzs hzb rfl (by omega) _ n xs rfl HO' ⟨gb, 0, none⟩ 1 1 ys rfl (by rw [hys]) hnew h1y (by simp only [maxLen]; omega) hbig hbase ?_; intro v1 w1 hown hgr _ hat)
    all_goals
      go_ret
      exact ⟨v1, rfl, hown, hgr, hat.imp_right (fun h => ⟨_, h, Nat.le_refl _⟩)⟩
end
section
open Go.Lib Go.Proofs.Ytofonbfpjfabbaa.Hand Go.Proofs.Ytofonbfpjfabbaa.Aid
/-- The cells of keys, one behind the other. -/
def rowsK (l : List S24) : List Value := l.flatMap rowK
theorem rowsK_len : ∀ l : List S24, (rowsK l).length = l.length * 3
  | [] => rfl
  | x :: t => by show (rowK x ++ rowsK t).length = _; rw [List.length_append, rowsK_len t]; simp [rowK]; omega
theorem rowsK_append (a b : List S24) : rowsK (a ++ b) = rowsK a ++ rowsK b := by unfold rowsK; rw [List.flatMap_append]
theorem rowsK_take (l : List S24) (i : Nat) (hi : i ≤ l.length) : (rowsK l).take (i * 3) = rowsK (l.take i) := by
  have h := rowsK_append (l.take i) (l.drop i)
  rw [List.take_append_drop] at h
  have hl : (rowsK (l.take i)).length = i * 3 := by rw [rowsK_len, List.length_take, Nat.min_eq_left hi]
  rw [h, ← hl, List.take_left]
theorem rowsK_drop (l : List S24) (i : Nat) (hi : i ≤ l.length) : (rowsK l).drop (i * 3) = rowsK (l.drop i) := by
  have h := rowsK_append (l.take i) (l.drop i)
  rw [List.take_append_drop] at h
  have hl : (rowsK (l.take i)).length = i * 3 := by rw [rowsK_len, List.length_take, Nat.min_eq_left hi]
  rw [h, ← hl, List.drop_left]
theorem rowsK_one (l : List S24) : ∀ u ∈ rowsK l, u.oneCell' = true := by
  intro u hu
  obtain ⟨x, _, hx⟩ := List.mem_flatMap.1 hu
  simp only [rowK, List.mem_cons, List.not_mem_nil, or_false] at hx
  rcases hx with rfl | rfl | rfl <;> rfl
theorem reps_rowsK {W : World} {base : Nat} {ok : Nat → Prop} {xs : List S24} {inner : List Value} (h : Reps (k24.M W base ok) 3 xs inner) : inner = rowsK xs := by
  induction xs generalizing inner with
  | nil =>
    have := h.1
    simpa [rowsK] using this
  | cons x t ih =>
    have h0 := k24_openM (h.2 0 x rfl)
    have ht : Reps (k24.M W base ok) 3 t (inner.drop 3) := by
      refine ⟨by rw [List.length_drop, h.1, List.length_cons]; omega, fun j p hp => ?_⟩
      have := h.2 (j + 1) p (by simpa using hp)
      rwa [Nat.add_mul, Nat.one_mul, Nat.add_comm (j * 3) 3, ← List.drop_drop] at this
    have e := ih ht
    show inner = rowK x ++ rowsK t
    rw [← e]
    rw [Nat.zero_mul, List.drop_zero] at h0
    rw [show rowK x = inner.take 3 from h0.symm, List.take_append_drop]
theorem rowsK_reps (W : World) (base : Nat) (ok : Nat → Prop) (xs : List S24) : Reps (k24.M W base ok) 3 xs (rowsK xs) := by
  refine ⟨rowsK_len xs, fun j p hp => ?_⟩
  obtain ⟨hj, rfl⟩ := List.getElem?_eq_some_iff.1 hp
  rw [rowsK_drop xs j (by omega), List.drop_eq_getElem_cons hj]
  show k24.M W base ok xs[j] ((rowK xs[j] ++ rowsK (xs.drop (j + 1))).take 3)
  rw [List.take_append_of_le_length (by simp [rowK]), List.take_of_length_le (by simp [rowK])]
  exact k24_mkM W base ok xs[j]
theorem own_of_R24 {w : World} {base : Nat} {ok : Nat → Prop} {v : Value} {xs : List S24} (h : Kd.R k24 24 w base ok v xs) : w.ownsRow base 24 3 v xs.length (rowsK xs) := by
  obtain ⟨_, inner, ho, hr⟩ := h
  rw [reps_rowsK hr] at ho
  exact ho
theorem R24_of_own {w : World} {base : Nat} {ok : Nat → Prop} {v : Value} {xs : List S24} (h : w.ownsRow base 24 3 v xs.length (rowsK xs)) (hok : ∀ k, v.ownBlock = some k → ok k) : Kd.R k24 24 w base ok v xs :=
  ⟨hok, _, h, rowsK_reps _ _ _ _⟩
/-- slices.Insert of one key. -/
theorem insert_key (w : World) (base gb : Nat) (ok : Nat → Prop) (v : Value) (xs : List S24) (x : S24) (i : Nat) (hi : i ≤ xs.length) (HO : Kd.R k24 24 w base ok v xs) (hb : w.heap[gb]? = some (.cells (rowK x).toArray 24 (0, 0))) (hne : v.ownBlock ≠ some gb)
    (hbase : base ≤ w.heap.size) (hlen : xs.length < 1000000) (hfresh : ∀ k, w.heap.size ≤ k → ok k) :
    Calls Try.prog 47 #[v, .int .i64 i, .slice (some ⟨gb, 0, none⟩) 1 1] w fun e w' => ∃ v', e = .returned v' ∧ Kd.R k24 24 w' base ok v' (xs.take i ++ x :: xs.drop i) ∧ w.grownBy w' v.ownBlock ∧ (v'.ownBlock = v.ownBlock ∨ ∃ b, v'.ownBlock = some b ∧ w.heap.size ≤ b) := by
  have ho := own_of_R24 HO
  have key : Calls Try.prog 47 #[v, .int .i64 i, .slice (some ⟨gb, 0, none⟩) 1 1] w (InsPost w base v xs.length (rowsK (xs.take i ++ x :: xs.drop i))) := by
    have hy : ∀ u ∈ rowK x, u.oneCell' = true := by
      intro u hu
      simp only [rowK, List.mem_cons, List.not_mem_nil, or_false] at hu
      rcases hu with rfl | rfl | rfl <;> rfl
    have e : rowsK (xs.take i ++ x :: xs.drop i) = (rowsK xs).take (i * 3) ++ rowK x ++ (rowsK xs).drop (i * 3) := by
      rw [rowsK_append, rowsK_take xs i hi, rowsK_drop xs i hi, List.append_assoc]
      rfl
    rcases Nat.lt_or_ge i xs.length with hlt | hge
    · rcases ho.2 with ⟨rfl, h0⟩ | ⟨g, cap, cur, rfl, hg0, hg, hnc, hmc, hcs, ht⟩
      · omega
      · have hne' : gb ≠ g := fun h => hne (by rw [h]; rfl)
        rw [e, ← ht]
        rcases Nat.lt_or_ge cap (xs.length + 1) with hc | hc
        · exact insert_grow w base g xs.length cap i gb cur (rowK x) rfl hy hg0 hg hcs (by rw [ht]; exact rowsK_one xs) hb hne' hlt hnc hc (by omega)
        · exact insert_room w base g xs.length cap i gb cur (rowK x) rfl hy hg0 hg hcs (by rw [ht]; exact rowsK_one xs) hb hne' hlt hc hmc
    · obtain rfl : i = xs.length := by omega
      have := insert_end w base xs.length gb v (rowsK xs) (rowK x) rfl hy hbase ho hb (by omega)
      rw [List.take_length, List.drop_length, rowsK_append]
      exact this
  refine Calls.mono key ?_
  rintro e w' ⟨v', rfl, hown, hg, hat⟩
  have hl : (xs.take i ++ x :: xs.drop i).length = xs.length + 1 := by rw [List.length_append, List.length_cons, List.length_take, List.length_drop]; omega
  refine ⟨v', rfl, R24_of_own (by rw [hl]; exact hown) (fun k hk => ?_), hg, hat⟩
  rcases hat with h | ⟨b, h, hbb⟩
  · exact HO.1 k (by rw [← h]; exact hk)
  · rw [h] at hk
    injection hk with hk
    rw [← hk]
    exact hfresh b hbb
set_option maxHeartbeats 4000000 in
set_option maxRecDepth 100000 in
/-- insert. -/
theorem insert_calls (w : World) (base : Nat) (ok : Nat → Prop) (v : Value) (xs : List S24) (x : S24) (HO : Kd.R k24 24 w base ok v xs) (hbase : base ≤ w.heap.size) (hlen : xs.length < 1000000) (hfresh : ∀ k, w.heap.size ≤ k → ok k) (hsrt : Srt ltK xs) :
    Calls Try.prog 36 #[v, encK x] w fun e w' => ∃ v', e = .returned v' ∧ Kd.R k24 24 w' base ok v' (insK ltK xs x) ∧ w.grownBy w' v.ownBlock ∧ (v'.ownBlock = v.ownBlock ∨ ∃ b, v'.ownBlock = some b ∧ w.heap.size ≤ b) := by
  unfold encK
  obtain ⟨A, c, rfl⟩ := Kd.R_slice HO
  go_enter Try.func36, Try.ntmps36
  go_upto_region 1 with (fail)
  obtain ⟨b, hb⟩ : ∃ b, w.heap.size = b := ⟨_, rfl⟩
  obtain ⟨W1, hW1⟩ : ∃ W1, w.alloc (.cells #[.int .i64 x.f0, .int .i64 x.f1, .int .i64 x.f2] 24) = W1 := ⟨_, rfl⟩
  have hb1 : Below b w W1 := by rw [← hb, ← hW1]; exact below_alloc (Below.refl _ _) _
  have hk1 : W1.heap[b]? = some (.cells #[.int .i64 x.f0, .int .i64 x.f1, .int .i64 x.f2] 24 (0, 0)) := by rw [← hb, ← hW1]; exact hb_new _ _
  have hz1 : W1.heap.size = b + 1 := by rw [← hb, ← hW1]; simp
  have hg1 : w.grownBy W1 (Value.slice A xs.length c).ownBlock := by rw [← hW1]; exact World.grownBy_alloc w _ _
  rw [hW1, hb]
  clear hW1
  have y0 : W1.cell? ⟨b, 0, none⟩ = some (.int .i64 x.f0) := (cells_of_blk hk1 0).trans rfl
  have y1 : W1.cell? ⟨b, 1, none⟩ = some (.int .i64 x.f1) := (cells_of_blk hk1 1).trans rfl
  have y2 : W1.cell? ⟨b, 2, none⟩ = some (.int .i64 x.f2) := (cells_of_blk hk1 2).trans rfl
  have ho1 : Kd.R k24 24 W1 base ok (.slice A xs.length c) xs := Kd.R_below HO (by rw [hb]; exact hb1)
  obtain ⟨k, hk⟩ := search_f xs x hsrt hlen
  obtain ⟨i, hi⟩ : ∃ i, placeK xs x = i := ⟨_, rfl⟩
  have hil : i ≤ xs.length := by rw [← hi]; exact placeK_le xs x
  have hins := insK_place xs x
  rw [hi] at hk hins
  obtain ⟨fd, hfd⟩ : ∃ fd : Bool, decide (xs[i]? = some x) = fd := ⟨_, rfl⟩
  rw [hfd] at hk
  obtain ⟨A', c', he, hcl, hcc⟩ := Kd.R_reads ho1
  injection he with e1 e2 e3
  subst e1 e3
  have HC46 := Aside0.mk (slices_BinarySearchFunc_46_at_39.calls k A c xs x.f0 x.f1 x.f2 i fd W1 hcc hcl hk)
  have HO1 := Aside0.mk ho1
  have HK1 := Aside0.mk hk1
  have HB1 := Aside0.mk hb1
  have HG1 := Aside0.mk hg1
  have HINS := Aside0.mk hins
  have HFD := Aside0.mk hfd
  have HFR := Aside0.mk hfresh
  have HSZ := Aside0.mk (And.intro hb (And.intro hbase hz1))
  have HLEN := Aside0.mk hlen
  have HIL := Aside0.mk hil
  have HNE := Aside0.mk (show (Value.slice A xs.length c).ownBlock ≠ some b from fun h => by
    have := own_lt (own_of_R24 HO) b h
    omega)
  clear ho1 hk1 hb1 hg1 hins hfd hfresh hb hbase hz1 hlen hil hk hcc hcl hi hsrt HO
  have hfin : ∀ w9, Below W1.heap.size W1 w9 → w.grownBy w9 (Value.slice A xs.length c).ownBlock := fun w9 h => World.grownBy.trans HG1.out ⟨h.os, h.tape, h.output, h.size, fun k hk _ => h.block k hk⟩
  cases fd with
  | true =>
    go_wp2_with (first | (go_at_call 46; refine HC46.out.mono ?_; rintro e w9 ⟨rfl, hb9⟩; have HB9 := Aside0.mk hb9; clear hb9))
    go_ret
    refine ⟨_, rfl, ?_, hfin w9 HB9.out, .inl rfl⟩
    rw [HINS.out, if_pos (of_decide_eq_true HFD.out)]
    exact Kd.R_below HO1.out HB9.out
  | false =>
    go_wp2_with (first
      | (go_at_call 46; refine HC46.out.mono ?_; rintro e w9 ⟨rfl, hb9⟩; have z0 := (hb9.cell (World.block_lt_of_cell? _ _ y0)).trans y0; have z1 := (hb9.cell (World.block_lt_of_cell? _ _ y1)).trans y1; have z2 := (hb9.cell (World.block_lt_of_cell? _ _ y2)).trans y2
         have HC47 := Aside0.mk (insert_key (w9.alloc (.cells #[.int .i64 x.f0, .int .i64 x.f1, .int .i64 x.f2] 24)) base w9.heap.size ok (.slice A xs.length c) xs x i HIL.out (Kd.R_below (Kd.R_below HO1.out hb9) (below_alloc (Below.refl _ _) _)) (hb_new _ _) (fun h => by have h2 := own_lt (own_of_R24 HO1.out) _ h; have h3 := hb9.size; omega) (by have h1 := HSZ.out; have h3 := hb9.size; simp; omega) HLEN.out (fun k hk => HFR.out k (by have h1 := HSZ.out; have h3 := hb9.size; simp at hk; omega)))
         have HB9 := Aside0.mk hb9; clear hb9 y0 y1 y2)
      | (go_at_call 47; refine HC47.out.mono ?_; rintro e w10 ⟨v10, rfl, h10⟩; have H10 := Aside0.mk h10; clear h10))
    go_ret
    obtain ⟨ho, hg, hat⟩ := H10.out
    refine ⟨v10, rfl, ?_, ?_, hat.imp_right (fun ⟨b, h, h2⟩ => ⟨b, h, ?_⟩)⟩
    · rw [HINS.out, if_neg (of_decide_eq_false HFD.out)]
      exact ho
    · exact World.grownBy.trans (World.grownBy.trans (hfin w9 HB9.out) (World.grownBy_alloc _ _ _)) hg
    · have h1 := HSZ.out; have h3 := HB9.out.size; simp at h2; omega
end
section
open Go.Lib Go.Proofs.Ytofonbfpjfabbaa.Hand Go.Proofs.Ytofonbfpjfabbaa.Aid
/-- The edges, as pairs (from, to); the sorted keys an edge leads to from a key; all keys, sorted. -/
def edgeP (rev : Bool) (e : S44) : S24 × S24 := if rev then (e.f1, e.f0) else (e.f0, e.f1)
def edgesP (rev : Bool) (l : List S44) : List (S24 × S24) := l.map (edgeP rev)
def nextK (E : List (S24 × S24)) (k : S24) : List S24 := sortK ltK ((E.filter (fun p => decide (p.1 = k))).map (·.2))
def keysK (E : List (S24 × S24)) : List S24 := sortK ltK (E.flatMap (fun p => [p.1, p.2]))
theorem nextK_snoc (E : List (S24 × S24)) (p : S24 × S24) (k : S24) : nextK (E ++ [p]) k = if p.1 = k then insK ltK (nextK E k) p.2 else nextK E k := by
  unfold nextK
  rw [List.filter_append, List.map_append]
  by_cases h : p.1 = k
  · rw [if_pos h, List.filter_cons, if_pos (by simpa using h)]
    exact sortK_snoc ltK _ _
  · rw [if_neg h, List.filter_cons, if_neg (by simpa using h)]
    simp
theorem keysK_snoc (E : List (S24 × S24)) (p : S24 × S24) : keysK (E ++ [p]) = insK ltK (insK ltK (keysK E) p.1) p.2 := by
  unfold keysK
  rw [List.flatMap_append]
  show sortK ltK (E.flatMap (fun p => [p.1, p.2]) ++ ([p.1] ++ [p.2] ++ [])) = _
  rw [List.append_nil, ← List.append_assoc, sortK_snoc, sortK_snoc]
theorem nextK_len (E : List (S24 × S24)) (k : S24) : (nextK E k).length ≤ E.length := by
  unfold nextK
  have h := sortK_len ltK ((E.filter (fun p => decide (p.1 = k))).map (·.2))
  rw [List.length_map] at h
  exact Nat.le_trans h (List.length_filter_le _ _)
theorem keysK_len (E : List (S24 × S24)) : (keysK E).length ≤ 2 * E.length := by
  unfold keysK
  refine Nat.le_trans (sortK_len ltK _) ?_
  induction E with
  | nil => exact Nat.le_refl _
  | cons p t ih =>
    simp only [List.flatMap_cons, List.length_append, List.length_cons, List.length_nil] at ih ⊢
    omega
theorem nextK_srt (E : List (S24 × S24)) (k : S24) : Srt ltK (nextK E k) := sortK_srt ordK _
theorem keysK_srt (E : List (S24 × S24)) : Srt ltK (keysK E) := sortK_srt ordK _
/-- The graph that is built: tags f tell whose row a block is. -/
def GrI (base g mb : Nat) (E : List (S24 × S24)) (w : World) : Prop :=
  ∃ (f : Nat → Option S24) (vk : Value) (m : List (S24 × Value)), w.heap[g]? = some (.cells #[.map (some mb), vk] 53 (0, 0)) ∧ MapIs encK w mb m ∧ Kd.R k24 24 w base (fun b => f b = none) vk (keysK E) ∧
    ∀ k, Kd.R k24 24 w base (fun b => f b = some k) ((mget m k).getD (.slice none 0 0)) (nextK E k)
/-- The graph that is read. -/
def GrC (g mb : Nat) (E : List (S24 × S24)) (w : World) : Prop :=
  ∃ (A : Option Addr) (c : Nat) (m : List (S24 × Value)), w.heap[g]? = some (.cells #[.map (some mb), .slice A (keysK E).length c] 53 (0, 0)) ∧ (keysK E).length ≤ c ∧ Kd.C k24 w A (keysK E).length (keysK E) ∧ MapIs encK w mb m ∧
    ∀ k, ∃ A' c', (mget m k).getD (.slice none 0 0) = .slice A' (nextK E k).length c' ∧ (nextK E k).length ≤ c' ∧ Kd.C k24 w A' (nextK E k).length (nextK E k)
theorem GrI.read {base g mb : Nat} {E : List (S24 × S24)} {w : World} (h : GrI base g mb E w) : GrC g mb E w := by
  obtain ⟨f, vk, m, h1, h2, h3, h4⟩ := h
  obtain ⟨A, c, rfl, hc, hr⟩ := Kd.R_reads h3
  refine ⟨A, c, m, h1, hc, hr, h2, fun k => ?_⟩
  obtain ⟨A', c', e, hc', hr'⟩ := Kd.R_reads (h4 k)
  exact ⟨A', c', e, hc', hr'⟩
theorem GrC.below {g mb : Nat} {E : List (S24 × S24)} {w w1 : World} (h : GrC g mb E w) (hb : Below w.heap.size w w1) : GrC g mb E w1 := by
  obtain ⟨A, c, m, h1, hc, hr, h2, h3⟩ := h
  refine ⟨A, c, m, (hb.block _ (lt_of_blk h1)).trans h1, hc, Kd.C_below hr hb, h2.below hb h2.lt, fun k => ?_⟩
  obtain ⟨A', c', e, hc', hr'⟩ := h3 k
  exact ⟨A', c', e, hc', Kd.C_below hr' hb⟩
theorem GrI.below {base g mb : Nat} {E : List (S24 × S24)} {w w1 : World} (h : GrI base g mb E w) (hb : Below w.heap.size w w1) : GrI base g mb E w1 := by
  obtain ⟨f, vk, m, h1, h2, h3, h4⟩ := h
  exact ⟨f, vk, m, (hb.block _ (lt_of_blk h1)).trans h1, h2.below hb h2.lt, Kd.R_below h3 hb, fun k => Kd.R_below (h4 k) hb⟩
/-- The number of edges that count. -/
def capE (n : Nat) : Nat := min n 400
theorem min_400 (n : Nat) (ats : Array TypeId) (ty : TypeId) : Builtin.min_ ats ty #[.int .i64 (n : Int), .int .i64 400] = pure (.int .i64 (capE n : Int)) := by
  rw [min_two, min2_int]
  simp only [pure_bind]
  congr 2
  unfold capE
  split <;> omega
attribute [local go_sem high] min_400
theorem zero27 (W : World) : (zeroValue 27).run Try.prog W = .ok (.slice none 0 0) W := by kernel_rfl
def NgPost (l : List S44) (rev : Bool) (w : World) (e : Ending) (w' : World) : Prop := ∃ g mb, e = .returned (.pointer (some ⟨g, 0, none⟩)) ∧ GrC g mb (edgesP rev l) w' ∧ Below w.heap.size w w'
set_option maxRecDepth 100000 in
set_option maxHeartbeats 16000000 in
theorem newGraph_calls (A0 : Option Addr) (c0 : Nat) (l0 : List S44) (rev : Bool) (w : World) (hr0 : Kd.C k44 w A0 l0.length l0) (hc0 : l0.length ≤ c0) :
    Calls Try.prog 21 #[.slice A0 l0.length c0, .bool rev] w (NgPost (l0.take 400) rev w) := by
  have HR0 := Aside0.mk hr0
  have HC0 := Aside0.mk hc0
  clear hr0 hc0
  have hmm := @run_makeMap Try.prog
  go_enter Try.func21, Try.ntmps21
  go_upto_region 2 with (fail)
  obtain ⟨b, hb⟩ : ∃ b, w.heap.size = b := ⟨_, rfl⟩
  obtain ⟨W1, hW1⟩ : ∃ W1, (w.alloc (.map #[] 0)).alloc (.cells #[.map (some w.heap.size), .slice none 0 0] 53) = W1 := ⟨_, rfl⟩
  have hb1 : Below b w W1 := by rw [← hb, ← hW1]; exact below_alloc (below_alloc (Below.refl _ _) _) _
  have hI1 : GrI (b + 2) (b + 1) b [] W1 := by
    rw [← hb, ← hW1]
    refine ⟨fun _ => none, .slice none 0 0, [], ?_, ((MapIs.new w).below (below_alloc (Below.refl _ _) _) (by simp)), Kd.R_nil _ _ _ _ _, fun k => Kd.R_nil _ _ _ _ _⟩
    have := hb_new (w.alloc (.map #[] 0)) (.cells #[.map (some w.heap.size), .slice none 0 0] 53)
    rwa [World.size_alloc] at this
  have hz1 : W1.heap.size = b + 2 := by rw [← hb, ← hW1]; simp
  rw [hW1, hb]
  clear hW1
  have HBW := Aside0.mk hb
  have HB1 := Aside0.mk hb1
  have HI1 := Aside0.mk hI1
  have HZ1 := Aside0.mk hz1
  clear hb hb1 hI1 hz1 hmm
  obtain ⟨l, hl⟩ : ∃ l, l0.take 400 = l := ⟨_, rfl⟩
  rw [hl]
  have hll : l.length = capE l0.length := by rw [← hl, List.length_take, Nat.min_comm]; rfl
  have hn4 : capE l0.length ≤ l0.length ∧ capE l0.length ≤ 400 := by unfold capE; omega
  have hq0 : (capE l0.length : Int) ≤ (c0 : Int) := by have := HC0.out; omega
  have hC : Kd.C k44 w A0 l.length l := by
    have h := HR0.out
    rw [← hl]
    refine ⟨rfl, Nat.le_trans (List.length_take_le' _ _) h.2.1, fun h0 => ?_⟩
    obtain ⟨ad, rfl, h3⟩ := h.2.2 (by rw [hl, hll] at h0; omega)
    refine ⟨ad, rfl, fun j p hp => h3 j p ?_⟩
    rw [List.getElem?_take] at hp
    split at hp
    · exact hp
    · cases hp
  obtain ⟨n, hn⟩ : ∃ n, capE l0.length = n := ⟨_, rfl⟩
  have HCL := Aside0.mk hC
  have HL := Aside0.mk hl
  have HLN := Aside0.mk (show l.length = n ∧ n ≤ 400 by omega)
  go_wp2
  clear hl hll hn4 hq0 hC hn
  go_loopg [19] n (fun kq v19 W => ∃ i : Nat, v19 = .int .i64 (i : Int) ∧ kq + i = n ∧ Aside0 (GrI (b + 2) (b + 1) b (edgesP rev (l.take i)) W ∧ Below b w W))
  case atStart => exact ⟨0, rfl, by omega, ⟨HI1.out, HB1.out⟩⟩
  case round =>
    obtain ⟨i, rfl, hi, hA⟩ := hrel
    cases gk with
    | zero =>
      have HIL := Aside0.mk (show i = n by omega)
      have c0' : decide ((i : Int) < (n : Int)) = false := decide_eq_false (by omega)
      have c0'' : decide (i < n) = false := decide_eq_false (by omega)
      clear hi
      go_wp2
      go_ret
      obtain ⟨h1, h2⟩ := hA.out
      have e : l.take i = l0.take 400 := by rw [List.take_of_length_le (by have := HLN.out; have := HIL.out; omega), HL.out]
      rw [e] at h1
      exact ⟨b + 1, b, rfl, h1.read, by rw [HBW.out]; exact h2⟩
    | succ k1 =>
      have c0' : decide ((i : Int) < (n : Int)) = true := decide_eq_true (by omega)
      have c0'' : decide (i < n) = true := decide_eq_true (by omega)
      have hin : i < l.length := by have := HLN.out; omega
      obtain ⟨x, hx⟩ : ∃ x, rd_T44 l (i : Int) = x := ⟨_, rfl⟩
      have hxl : l.take (i + 1) = l.take i ++ [x] := by
        rw [List.take_succ_eq_append_getElem hin, ← hx]
        unfold rd_T44
        rw [Int.toNat_natCast, List.getD_eq_getElem?_getD, List.getElem?_eq_getElem hin]
        rfl
      obtain ⟨hgr, hbb⟩ := hA.out
      have hlt : b + 2 ≤ wr.heap.size := by
        obtain ⟨f, vk, m, h1, _⟩ := hgr
        have := lt_of_blk h1
        omega
      obtain ⟨ad, rfl, x0, x1, x2, x3, x4, x5⟩ := at_T44 (Kd.C_below HCL.out (by rw [HBW.out]; exact hbb)) (i : Int) (by omega) (by omega)
      rw [Int.toNat_natCast, hx] at x0 x1 x2 x3 x4 x5
      have HX := Aside0.mk hxl
      have HGR := Aside0.mk hgr
      have HBB := Aside0.mk hbb
      have HLT := Aside0.mk hlt
      clear hxl hgr hbb hlt hA hx HCL
      have p0 := eq_true (show (0 : Int) ≤ (i : Int) by omega)
      have p1 := eq_true (show (i : Int) < (n : Int) by omega)
      go_upto_region 5 with (fail)
      clear x0 x1 x2 x3 x4 x5 p0 p1 c0' c0''
      obtain ⟨eb, heb⟩ : ∃ eb, wr.heap.size = eb := ⟨_, rfl⟩
      obtain ⟨W4, hW4⟩ : ∃ W4, wr.alloc (.cells #[.int .i64 x.f0.f0, .int .i64 x.f0.f1, .int .i64 x.f0.f2, .int .i64 x.f1.f0, .int .i64 x.f1.f1, .int .i64 x.f1.f2] 44) = W4 := ⟨_, rfl⟩
      have hb4 : Below eb wr W4 := by rw [← heb, ← hW4]; exact below_alloc (Below.refl _ _) _
      have hk4 : W4.heap[eb]? = some (.cells #[.int .i64 x.f0.f0, .int .i64 x.f0.f1, .int .i64 x.f0.f2, .int .i64 x.f1.f0, .int .i64 x.f1.f1, .int .i64 x.f1.f2] 44 (0, 0)) := by rw [← heb, ← hW4]; exact hb_new _ _
      have hz4 : W4.heap.size = eb + 1 := by rw [← heb, ← hW4]; simp
      have hgr4 : GrI (b + 2) (b + 1) b (edgesP rev (l.take i)) W4 := HGR.out.below (by rw [heb]; exact hb4)
      have hlt4 : b + 2 ≤ eb := by rw [← heb]; exact HLT.out
      have hbb4 : Below b w W4 := HBB.out.trans (hb4.mono (by omega))
      simp only [hW4, heb]
      have HZ4 := Aside0.mk (And.intro hz4 hlt4)
      have HG4 := Aside0.mk hgr4
      have HBB4 := Aside0.mk hbb4
      have HS4 := Aside0.mk (show ∀ X, Below W4.heap.size W4 X → (X.cell? ⟨eb, 0, none⟩ = some (.int .i64 x.f0.f0) ∧ X.cell? ⟨eb, 1, none⟩ = some (.int .i64 x.f0.f1) ∧ X.cell? ⟨eb, 2, none⟩ = some (.int .i64 x.f0.f2) ∧ X.cell? ⟨eb, 3, none⟩ = some (.int .i64 x.f1.f0) ∧ X.cell? ⟨eb, 4, none⟩ = some (.int .i64 x.f1.f1) ∧ X.cell? ⟨eb, 5, none⟩ = some (.int .i64 x.f1.f2)) from fun X hX => by
        have hk := (hX.block _ (lt_of_blk hk4)).trans hk4
        exact ⟨(cells_of_blk hk 0).trans rfl, (cells_of_blk hk 1).trans rfl, (cells_of_blk hk 2).trans rfl, (cells_of_blk hk 3).trans rfl, (cells_of_blk hk 4).trans rfl, (cells_of_blk hk 5).trans rfl⟩)
      clear hW4 heb hb4 hk4 hz4 hgr4 hlt4 hbb4 HGR HBB HLT
      have hu24 := Try.underlying24
      have hu44 := Try.underlying44
      refine start_ (n := 8) (S := fun w' => w'.cell? ⟨eb, 0, none⟩ = some (.int .i64 x.f0.f0) ∧ w'.cell? ⟨eb, 1, none⟩ = some (.int .i64 x.f0.f1) ∧ w'.cell? ⟨eb, 2, none⟩ = some (.int .i64 x.f0.f2) ∧ w'.cell? ⟨eb, 3, none⟩ = some (.int .i64 x.f1.f0) ∧ w'.cell? ⟨eb, 4, none⟩ = some (.int .i64 x.f1.f1) ∧ w'.cell? ⟨eb, 5, none⟩ = some (.int .i64 x.f1.f2)) (ds := ([] : List Nat)) #[false, false, false, false, false, false, false, false] (by kernel_rfl) rfl rfl (HS4.out _ (below_drew1 (Below.refl _ _))) (fun hHeld => ?_)
      refine pure_ (i := 0) (N := some 23) (v := ?_) (a' := ?_) #[true, false, false, false, false, false, false, false] rfl rfl (by kernel_rfl) (fun _ _ _ h => h) (Or.inl ⟨by rfl, ?_⟩) ?_ ?_
      rotate_left
      · intro w'
        go_simp
        with_reducible rfl
      rotate_left
      · simp only [Act.put, List.setIfInBounds_toArray, List.set_cons_zero, List.set_cons_succ, i64_w, i32_w]
        rfl
      refine take_ (i := 1) (N := some 24) (v := ?_) (a' := ?_) #[true, true, false, false, false, false, false, false] rfl rfl (by kernel_rfl) (fun _ _ _ h => h) (Or.inl ⟨by rfl, ?_⟩) hHeld ?_ ?_
      rotate_left
      · rintro w' ⟨s0_, s1_, s2_, s3_, s4_, s5_⟩
        go_simp
        with_reducible rfl
      rotate_left
      · simp only [Act.put, List.setIfInBounds_toArray, List.set_cons_zero, List.set_cons_succ, i64_w, i32_w]
        rfl
      refine pure_ (i := 2) (N := some 25) (v := ?_) (a' := ?_) #[true, true, true, false, false, false, false, false] rfl rfl (by kernel_rfl) (fun _ _ _ h => h) (Or.inl ⟨by rfl, ?_⟩) ?_ ?_
      rotate_left
      · intro w'
        go_simp
        with_reducible rfl
      rotate_left
      · simp only [Act.put, List.setIfInBounds_toArray, List.set_cons_zero, List.set_cons_succ, i64_w, i32_w]
        rfl
      refine take_ (i := 3) (N := some 26) (v := ?_) (a' := ?_) #[true, true, true, true, false, false, false, false] rfl rfl (by kernel_rfl) (fun _ _ _ h => h) (Or.inl ⟨by rfl, ?_⟩) hHeld ?_ ?_
      rotate_left
      · rintro w' ⟨s0_, s1_, s2_, s3_, s4_, s5_⟩
        go_simp
        with_reducible rfl
      rotate_left
      · simp only [Act.put, List.setIfInBounds_toArray, List.set_cons_zero, List.set_cons_succ, i64_w, i32_w]
        rfl
      refine join_ (σ := Nat × Nat) 2 #[true, true, true, true, true, true, false, false] (fun s_ => [(8, .pointer (some ⟨s_.1, 0, none⟩)), (9, .pointer (some ⟨s_.2, 0, none⟩))]) (fun s_ w' => w'.heap[s_.1]? = some (.cells #[.int .i64 0, .int .i64 0, .int .i64 0] 24) ∧ w'.heap[s_.2]? = some (.cells #[.int .i64 0, .int .i64 0, .int .i64 0] 24) ∧ s_.1 ≠ s_.2 ∧ eb + 1 ≤ s_.1 ∧ eb + 1 ≤ s_.2 ∧ Below W4.heap.size W4 w') ?_ (fun hcont => ?_)
      rotate_left
      have hA_ : ((W4.drew.alloc (.cells #[.int .i64 0, .int .i64 0, .int .i64 0] 24)).alloc (.cells #[.int .i64 0, .int .i64 0, .int .i64 0] 24)).heap[W4.heap.size]? = some (.cells #[.int .i64 0, .int .i64 0, .int .i64 0] 24) := hb_alloc (hb_new W4.drew _)
      have hB_ : ((W4.drew.alloc (.cells #[.int .i64 0, .int .i64 0, .int .i64 0] 24)).alloc (.cells #[.int .i64 0, .int .i64 0, .int .i64 0] 24)).heap[W4.heap.size + 1]? = some (.cells #[.int .i64 0, .int .i64 0, .int .i64 0] 24) := by
        have := hb_new (W4.drew.alloc (.cells #[.int .i64 0, .int .i64 0, .int .i64 0] 24)) (.cells #[.int .i64 0, .int .i64 0, .int .i64 0] 24)
        rwa [World.size_alloc] at this
      refine two_ (i := 4) (j := 5) (Ni := some 8) (Nj := some 9) #[true, true, true, true, true, false, false, false] #[true, true, true, true, false, true, false, false] rfl rfl rfl rfl (by kernel_rfl) (by decide) (by decide) (fun K hK => ?_) (fun K hK => ?_)
      · refine value_ (v := .pointer (some ⟨W4.heap.size, 0, none⟩)) (w1 := W4.drew.alloc (.cells #[.int .i64 0, .int .i64 0, .int .i64 0] 24)) (by rfl) rfl ?_ ?_
        · go_simp
        refine hK.out _ _ (HS4.out _ (below_alloc (below_drew1 (Below.refl _ _)) _)) (fun hHeld => ?_)
        clear hK K
        refine norm_ (a' := ?_) ?_ ?_
        rotate_left
        · show Act.put _ (some 8) _ = _
          simp only [Act.put, List.setIfInBounds_toArray, List.set_cons_zero, List.set_cons_succ, i64_w, i32_w]
          rfl
        refine one_ (i := 5) (N := some 9) #[true, true, true, true, true, true, false, false] rfl rfl (by kernel_rfl) (by decide) (fun K hK => ?_)
        refine value_ (v := .pointer (some ⟨W4.heap.size + 1, 0, none⟩)) (w1 := (W4.drew.alloc (.cells #[.int .i64 0, .int .i64 0, .int .i64 0] 24)).alloc (.cells #[.int .i64 0, .int .i64 0, .int .i64 0] 24)) (by rfl) rfl ?_ ?_
        · go_simp
        refine hK.out _ _ (HS4.out _ (below_alloc (below_alloc (below_drew1 (Below.refl _ _)) _) _)) (fun hHeld => ?_)
        clear hK K
        exact hcont (W4.heap.size, W4.heap.size + 1) _ ⟨hA_, hB_, by omega, by have := HZ4.out; omega, by have := HZ4.out; omega, below_alloc (below_alloc (below_drew1 (Below.refl _ _)) _) _⟩
      · refine value_ (v := .pointer (some ⟨W4.heap.size, 0, none⟩)) (w1 := W4.drew.alloc (.cells #[.int .i64 0, .int .i64 0, .int .i64 0] 24)) (by rfl) rfl ?_ ?_
        · go_simp
        refine hK.out _ _ (HS4.out _ (below_alloc (below_drew1 (Below.refl _ _)) _)) (fun hHeld => ?_)
        clear hK K
        refine norm_ (a' := ?_) ?_ ?_
        rotate_left
        · show Act.put _ (some 9) _ = _
          simp only [Act.put, List.setIfInBounds_toArray, List.set_cons_zero, List.set_cons_succ, i64_w, i32_w]
          rfl
        refine one_ (i := 4) (N := some 8) #[true, true, true, true, true, true, false, false] rfl rfl (by kernel_rfl) (by decide) (fun K hK => ?_)
        refine value_ (v := .pointer (some ⟨W4.heap.size + 1, 0, none⟩)) (w1 := (W4.drew.alloc (.cells #[.int .i64 0, .int .i64 0, .int .i64 0] 24)).alloc (.cells #[.int .i64 0, .int .i64 0, .int .i64 0] 24)) (by rfl) rfl ?_ ?_
        · go_simp
        refine hK.out _ _ (HS4.out _ (below_alloc (below_alloc (below_drew1 (Below.refl _ _)) _) _)) (fun hHeld => ?_)
        clear hK K
        exact hcont (W4.heap.size + 1, W4.heap.size) _ ⟨hB_, hA_, by omega, by have := HZ4.out; omega, by have := HZ4.out; omega, below_alloc (below_alloc (below_drew1 (Below.refl _ _)) _) _⟩
      rintro ⟨b8, b9⟩ W5 ⟨hk8, hk9, hne, hl8, hl9, hb5⟩
      refine norm_ (a' := ?_) ?_ ?_
      rotate_left
      · show putAll _ _ = _
        simp only [putAll, List.foldl_cons, List.foldl_nil, Act.put, List.setIfInBounds_toArray, List.set_cons_zero, List.set_cons_succ, i64_w, i32_w]
        rfl
      simp only at hk8 hk9 hne hl8 hl9
      have s0 : W5.cell? ⟨b8, 0, none⟩ = some (.int .i64 0) := (cells_of_blk hk8 0).trans rfl
      have s1 : W5.cell? ⟨b8, 1, none⟩ = some (.int .i64 0) := (cells_of_blk hk8 1).trans rfl
      have s2 : W5.cell? ⟨b8, 2, none⟩ = some (.int .i64 0) := (cells_of_blk hk8 2).trans rfl
      have f0 := free_of_blk hk8 0
      have f1 := free_of_blk hk8 1
      have f2 := free_of_blk hk8 2
      obtain ⟨W6, hW6⟩ : ∃ W6, ((W5.setCell ⟨b8, 0, none⟩ (.int .i64 x.f0.f0)).setCell ⟨b8, 1, none⟩ (.int .i64 x.f0.f1)).setCell ⟨b8, 2, none⟩ (.int .i64 x.f0.f2) = W6 := ⟨_, rfl⟩
      have hb6 : Below W4.heap.size W4 W6 := by
        rw [← hW6]
        have hw := HZ4.out
        exact ((hb5.setCell (by show _ ≤ b8; omega) _).setCell (by show _ ≤ b8; omega) _).setCell (by show _ ≤ b8; omega) _
      have hk86 : W6.heap[b8]? = some (.cells #[.int .i64 x.f0.f0, .int .i64 x.f0.f1, .int .i64 x.f0.f2] 24) := by
        rw [← hW6]
        have h := hb_set (hb_set (hb_set hk8 0 (.int .i64 x.f0.f0)) 1 (.int .i64 x.f0.f1)) 2 (.int .i64 x.f0.f2)
        exact h
      have hk96 : W6.heap[b9]? = some (.cells #[.int .i64 0, .int .i64 0, .int .i64 0] 24) := by
        rw [← hW6]
        exact hb_far (hb_far (hb_far hk9 (Ne.symm hne) _) (Ne.symm hne) _) (Ne.symm hne) _
      refine one_ (i := 6) (N := none) #[true, true, true, true, true, true, true, false] rfl rfl (by kernel_rfl) (by decide) (fun K hK => ?_)
      refine skip_ (w1 := W6) (by rfl) rfl ?_ ?_
      · go_simp
      refine hK.out _ _ (HS4.out _ hb6) (fun hHeld => ?_)
      clear hK K
      clear s0 s1 s2 f0 f1 f2 hk8 hk9 hb5 hW6
      have s0 : W6.cell? ⟨b9, 0, none⟩ = some (.int .i64 0) := (cells_of_blk hk96 0).trans rfl
      have s1 : W6.cell? ⟨b9, 1, none⟩ = some (.int .i64 0) := (cells_of_blk hk96 1).trans rfl
      have s2 : W6.cell? ⟨b9, 2, none⟩ = some (.int .i64 0) := (cells_of_blk hk96 2).trans rfl
      have f0 := free_of_blk hk96 0
      have f1 := free_of_blk hk96 1
      have f2 := free_of_blk hk96 2
      obtain ⟨W7, hW7⟩ : ∃ W7, ((W6.setCell ⟨b9, 0, none⟩ (.int .i64 x.f1.f0)).setCell ⟨b9, 1, none⟩ (.int .i64 x.f1.f1)).setCell ⟨b9, 2, none⟩ (.int .i64 x.f1.f2) = W7 := ⟨_, rfl⟩
      have hb7 : Below W4.heap.size W4 W7 := by
        rw [← hW7]
        have hw := HZ4.out
        exact ((hb6.setCell (by show _ ≤ b9; omega) _).setCell (by show _ ≤ b9; omega) _).setCell (by show _ ≤ b9; omega) _
      have hk97 : W7.heap[b9]? = some (.cells #[.int .i64 x.f1.f0, .int .i64 x.f1.f1, .int .i64 x.f1.f2] 24) := by
        rw [← hW7]
        have h := hb_set (hb_set (hb_set hk96 0 (.int .i64 x.f1.f0)) 1 (.int .i64 x.f1.f1)) 2 (.int .i64 x.f1.f2)
        exact h
      have hk87 : W7.heap[b8]? = some (.cells #[.int .i64 x.f0.f0, .int .i64 x.f0.f1, .int .i64 x.f0.f2] 24) := by
        rw [← hW7]
        exact hb_far (hb_far (hb_far hk86 hne _) hne _) hne _
      refine one_ (i := 7) (N := none) #[true, true, true, true, true, true, true, true] rfl rfl (by kernel_rfl) (by decide) (fun K hK => ?_)
      refine skip_ (w1 := W7) (by rfl) rfl ?_ ?_
      · go_simp
      refine hK.out _ _ (HS4.out _ hb7) (fun hHeld => ?_)
      clear hK K
      refine done_ (by kernel_rfl) ?_
      clear s0 s1 s2 f0 f1 f2 hk96 hk86 hb6 hW7 hHeld HS4
      obtain ⟨p, hp⟩ : ∃ p, edgeP rev x = p := ⟨_, rfl⟩
      have HP := Aside0.mk hp
      have HK8 := Aside0.mk hk87
      have HK9 := Aside0.mk hk97
      have HB7 := Aside0.mk hb7
      have HL8 := Aside0.mk (And.intro hne (And.intro hl8 hl9))
      clear hp hk87 hk97 hb7 hne hl8 hl9 hHeld
      go_upto_if 27 with (fail)
      go_cut [8] (fun v8 wx => v8 = .pointer (some ⟨b8, 0, none⟩) ∧ Aside0 (wx.heap[b8]? = some (.cells (rowK p.1).toArray 24 (0, 0)) ∧ wx.heap[b9]? = some (.cells (rowK p.2).toArray 24 (0, 0)) ∧ Below W4.heap.size W4 wx))
      case first =>
        cases rev with
        | false =>
          go_wp2
          go_meet
          obtain rfl := HP.out
          exact ⟨rfl, ⟨HK8.out, HK9.out, HB7.out⟩⟩
        | true =>
          obtain rfl := HP.out
          have hk8 := HK8.out
          have hk9 := HK9.out
          have s0 : W7.cell? ⟨b8, 0, none⟩ = some (.int .i64 x.f0.f0) := (cells_of_blk hk8 0).trans rfl
          have s1 : W7.cell? ⟨b8, 1, none⟩ = some (.int .i64 x.f0.f1) := (cells_of_blk hk8 1).trans rfl
          have s2 : W7.cell? ⟨b8, 2, none⟩ = some (.int .i64 x.f0.f2) := (cells_of_blk hk8 2).trans rfl
          have f0 := free_of_blk hk8 0
          have f1 := free_of_blk hk8 1
          have f2 := free_of_blk hk8 2
          have t0 : W7.cell? ⟨b9, 0, none⟩ = some (.int .i64 x.f1.f0) := (cells_of_blk hk9 0).trans rfl
          have t1 : W7.cell? ⟨b9, 1, none⟩ = some (.int .i64 x.f1.f1) := (cells_of_blk hk9 1).trans rfl
          have t2 : W7.cell? ⟨b9, 2, none⟩ = some (.int .i64 x.f1.f2) := (cells_of_blk hk9 2).trans rfl
          have g0 := free_of_blk hk9 0
          have g1 := free_of_blk hk9 1
          have g2 := free_of_blk hk9 2
          have hne := HL8.out.1
          have hne' := Ne.symm HL8.out.1
          clear hk8 hk9
          go_wp2
          go_meet
          refine ⟨rfl, ⟨?_, ?_, ?_⟩⟩
          · have h := hb_set (hb_set (hb_set HK8.out 0 (.int .i64 x.f1.f0)) 1 (.int .i64 x.f1.f1)) 2 (.int .i64 x.f1.f2)
            exact hb_far (hb_far (hb_far h hne _) hne _) hne _
          · have h := hb_far (p := ⟨b8, 2, none⟩) (hb_far (p := ⟨b8, 1, none⟩) (hb_far (p := ⟨b8, 0, none⟩) HK9.out hne' (.int .i64 x.f1.f0)) hne' (.int .i64 x.f1.f1)) hne' (.int .i64 x.f1.f2)
            exact hb_set (hb_set (hb_set h 0 (.int .i64 x.f0.f0)) 1 (.int .i64 x.f0.f1)) 2 (.int .i64 x.f0.f2)
          · have hw := HZ4.out
            have hl := HL8.out
            exact (((((HB7.out.setCell (by show _ ≤ b8; omega) _).setCell (by show _ ≤ b8; omega) _).setCell (by show _ ≤ b8; omega) _).setCell (by show _ ≤ b9; omega) _).setCell (by show _ ≤ b9; omega) _).setCell (by show _ ≤ b9; omega) _
      case rest =>
        obtain ⟨rfl, hcut⟩ := hcut
        obtain ⟨hk8, hk9, hb8⟩ := hcut.out
        obtain ⟨f, vk, m, hg4, hm4, hR4, hR4'⟩ := HG4.out
        obtain ⟨E, hE⟩ : ∃ E, edgesP rev (l.take i) = E := ⟨_, rfl⟩
        have hE' : edgesP rev (l.take (i + 1)) = E ++ [p] := by
          rw [HX.out, ← hE, ← HP.out]
          unfold edgesP
          rw [List.map_append]
          rfl
        rw [hE] at hR4 hR4'
        have hz4 := HZ4.out
        have hl8 := HL8.out
        have hEl : E.length ≤ 400 := by
          rw [← hE]
          unfold edgesP
          rw [List.length_map, List.length_take]
          have := HLN.out
          omega
        obtain ⟨v, hv⟩ : ∃ v, (mget m p.1).getD (.slice none 0 0) = v := ⟨_, rfl⟩
        have hg8 : wc.heap[b + 1]? = some (.cells #[.map (some b), vk] 53 (0, 0)) := (hb8.block _ (by omega)).trans hg4
        have hm8 : MapIs encK wc b m := hm4.below hb8 (by omega)
        have hR8 : ∀ k, Kd.R k24 24 wc (b + 2) (fun q => f q = some k ∧ b + 2 ≤ q ∧ q < eb + 1) ((mget m k).getD (.slice none 0 0)) (nextK E k) := fun k =>
          Kd.R_below (Kd.R_mono (Kd.R_bound (hR4' k)) (fun q hq => ⟨hq.1, hq.2.1, by have := hq.2.2.1; omega⟩)) hb8
        have hRv : Kd.R k24 24 wc (b + 2) (fun q => (f q = some p.1 ∧ b + 2 ≤ q ∧ q < eb + 1) ∨ wc.heap.size ≤ q) v (nextK E p.1) := by
          have h := hR8 p.1
          rw [hv] at h
          exact Kd.R_mono h (fun q hq => .inl hq)
        have hvo : ∀ q, v.ownBlock = some q → f q = some p.1 ∧ b + 2 ≤ q ∧ q < eb + 1 := by
          have h := (hR8 p.1).1
          rw [hv] at h
          exact h
        have hRk : Kd.R k24 24 wc (b + 2) (fun q => f q = none ∧ b + 2 ≤ q ∧ q < eb + 1) vk (keysK E) :=
          Kd.R_below (Kd.R_mono (Kd.R_bound hR4) (fun q hq => ⟨hq.1, hq.2.1, by have := hq.2.2.1; omega⟩)) hb8
        have hsz8 : W4.heap.size ≤ wc.heap.size := hb8.size
        have HS8 := Aside0.mk (show ∀ X : World, (∀ k, k = b + 1 ∨ k = b ∨ k = b8 ∨ k = b9 → X.heap[k]? = wc.heap[k]?) → (X.cell? ⟨b + 1, 0, none⟩ = some (.map (some b)) ∧ X.cell? ⟨b8, 0, none⟩ = some (.int .i64 p.1.f0) ∧ X.cell? ⟨b8, 1, none⟩ = some (.int .i64 p.1.f1) ∧ X.cell? ⟨b8, 2, none⟩ = some (.int .i64 p.1.f2) ∧ X.cell? ⟨b9, 0, none⟩ = some (.int .i64 p.2.f0) ∧ X.cell? ⟨b9, 1, none⟩ = some (.int .i64 p.2.f1) ∧ X.cell? ⟨b9, 2, none⟩ = some (.int .i64 p.2.f2) ∧ (Instr.lookup 51 (.map (some b)) (.agg #[.int .i64 p.1.f0, .int .i64 p.1.f1, .int .i64 p.1.f2]) false).run Try.prog X = .ok v X) from fun X hX => by
          have h1 := (hX _ (.inl rfl)).trans hg8
          have h8 := (hX _ (.inr (.inr (.inl rfl)))).trans hk8
          have h9 := (hX _ (.inr (.inr (.inr rfl)))).trans hk9
          refine ⟨(cells_of_blk h1 0).trans rfl, (cells_of_blk h8 0).trans rfl, (cells_of_blk h8 1).trans rfl, (cells_of_blk h8 2).trans rfl, (cells_of_blk h9 0).trans rfl, (cells_of_blk h9 1).trans rfl, (cells_of_blk h9 2).trans rfl, ?_⟩
          have h := (hm8.move (hX _ (.inr (.inl rfl)))).lookup keyLaw24 Try.underlying51 (zero27 X) p.1 false
          rw [hv] at h
          exact h)
        clear hg4 hm4 hR4 hR4'
        go_upto_region 8 with (fail)
        refine start_ (n := 14) (S := fun X => X.cell? ⟨b + 1, 0, none⟩ = some (.map (some b)) ∧ X.cell? ⟨b8, 0, none⟩ = some (.int .i64 p.1.f0) ∧ X.cell? ⟨b8, 1, none⟩ = some (.int .i64 p.1.f1) ∧ X.cell? ⟨b8, 2, none⟩ = some (.int .i64 p.1.f2) ∧ X.cell? ⟨b9, 0, none⟩ = some (.int .i64 p.2.f0) ∧ X.cell? ⟨b9, 1, none⟩ = some (.int .i64 p.2.f1) ∧ X.cell? ⟨b9, 2, none⟩ = some (.int .i64 p.2.f2) ∧ (Instr.lookup 51 (.map (some b)) (.agg #[.int .i64 p.1.f0, .int .i64 p.1.f1, .int .i64 p.1.f2]) false).run Try.prog X = .ok v X) (ds := [13]) #[false, false, false, false, false, false, false, false, false, false, false, false, false, false] (by kernel_rfl) rfl rfl (HS8.out _ (fun _ _ => rfl)) (fun hHeld => ?_)
        refine pure_ (i := 0) (N := some 30) (v := ?_) (a' := ?_) #[true, false, false, false, false, false, false, false, false, false, false, false, false, false] rfl rfl (by kernel_rfl) (fun _ _ _ h => h) (Or.inl ⟨by rfl, ?_⟩) ?_ ?_
        rotate_left
        · intro w'
          go_simp
          with_reducible rfl
        rotate_left
        · simp only [Act.put, List.setIfInBounds_toArray, List.set_cons_zero, List.set_cons_succ, i64_w, i32_w]
          rfl
        refine pure_ (i := 1) (N := some 31) (v := ?_) (a' := ?_) #[true, true, false, false, false, false, false, false, false, false, false, false, false, false] rfl rfl (by kernel_rfl) (fun _ _ _ h => h) (Or.inl ⟨by rfl, ?_⟩) ?_ ?_
        rotate_left
        · intro w'
          go_simp
          with_reducible rfl
        rotate_left
        · simp only [Act.put, List.setIfInBounds_toArray, List.set_cons_zero, List.set_cons_succ, i64_w, i32_w]
          rfl
        refine pure_ (i := 2) (N := some 32) (v := ?_) (a' := ?_) #[true, true, true, false, false, false, false, false, false, false, false, false, false, false] rfl rfl (by kernel_rfl) (fun _ _ _ h => h) (Or.inl ⟨by rfl, ?_⟩) ?_ ?_
        rotate_left
        · intro w'
          go_simp
          with_reducible rfl
        rotate_left
        · simp only [Act.put, List.setIfInBounds_toArray, List.set_cons_zero, List.set_cons_succ, i64_w, i32_w]
          rfl
        refine take_ (i := 3) (N := some 33) (v := ?_) (a' := ?_) #[true, true, true, true, false, false, false, false, false, false, false, false, false, false] rfl rfl (by kernel_rfl) (fun _ _ _ h => h) (Or.inl ⟨by rfl, ?_⟩) hHeld ?_ ?_
        rotate_left
        · rintro w' ⟨s0_, s1_, s2_, s3_, s4_, s5_, s6_, s7_⟩
          go_simp
          with_reducible rfl
        rotate_left
        · simp only [Act.put, List.setIfInBounds_toArray, List.set_cons_zero, List.set_cons_succ, i64_w, i32_w]
          rfl
        refine take_ (i := 4) (N := some 34) (v := ?_) (a' := ?_) #[true, true, true, true, true, false, false, false, false, false, false, false, false, false] rfl rfl (by kernel_rfl) (fun _ _ _ h => h) (Or.inl ⟨by rfl, ?_⟩) hHeld ?_ ?_
        rotate_left
        · rintro w' ⟨s0_, s1_, s2_, s3_, s4_, s5_, s6_, s7_⟩
          go_simp
          with_reducible rfl
        rotate_left
        · simp only [Act.put, List.setIfInBounds_toArray, List.set_cons_zero, List.set_cons_succ, i64_w, i32_w]
          rfl
        refine pure_ (i := 5) (N := some 35) (v := ?_) (a' := ?_) #[true, true, true, true, true, true, false, false, false, false, false, false, false, false] rfl rfl (by kernel_rfl) (fun _ _ _ h => h) (Or.inl ⟨by rfl, ?_⟩) ?_ ?_
        rotate_left
        · intro w'
          go_simp
          with_reducible rfl
        rotate_left
        · simp only [Act.put, List.setIfInBounds_toArray, List.set_cons_zero, List.set_cons_succ, i64_w, i32_w]
          rfl
        refine pure_ (i := 6) (N := some 36) (v := ?_) (a' := ?_) #[true, true, true, true, true, true, true, false, false, false, false, false, false, false] rfl rfl (by kernel_rfl) (fun _ _ _ h => h) (Or.inl ⟨by rfl, ?_⟩) ?_ ?_
        rotate_left
        · intro w'
          go_simp
          with_reducible rfl
        rotate_left
        · simp only [Act.put, List.setIfInBounds_toArray, List.set_cons_zero, List.set_cons_succ, i64_w, i32_w]
          rfl
        refine pure_ (i := 7) (N := some 37) (v := ?_) (a' := ?_) #[true, true, true, true, true, true, true, true, false, false, false, false, false, false] rfl rfl (by kernel_rfl) (fun _ _ _ h => h) (Or.inl ⟨by rfl, ?_⟩) ?_ ?_
        rotate_left
        · intro w'
          go_simp
          with_reducible rfl
        rotate_left
        · simp only [Act.put, List.setIfInBounds_toArray, List.set_cons_zero, List.set_cons_succ, i64_w, i32_w]
          rfl
        refine take_ (i := 8) (N := some 38) (v := ?_) (a' := ?_) #[true, true, true, true, true, true, true, true, true, false, false, false, false, false] rfl rfl (by kernel_rfl) (fun _ _ _ h => h) (Or.inl ⟨by rfl, ?_⟩) hHeld ?_ ?_
        rotate_left
        · rintro w' ⟨s0_, s1_, s2_, s3_, s4_, s5_, s6_, s7_⟩
          go_simp
          with_reducible rfl
        rotate_left
        · simp only [Act.put, List.setIfInBounds_toArray, List.set_cons_zero, List.set_cons_succ, i64_w, i32_w]
          rfl
        refine take_ (i := 9) (N := some 39) (v := ?_) (a' := ?_) #[true, true, true, true, true, true, true, true, true, true, false, false, false, false] rfl rfl (by kernel_rfl) (fun _ _ _ h => h) (Or.inl ⟨by rfl, ?_⟩) hHeld ?_ ?_
        rotate_left
        · rintro w' ⟨s0_, s1_, s2_, s3_, s4_, s5_, s6_, s7_⟩
          go_simp
          with_reducible rfl
        rotate_left
        · simp only [Act.put, List.setIfInBounds_toArray, List.set_cons_zero, List.set_cons_succ, i64_w, i32_w]
          rfl
        refine take_ (i := 10) (N := some 40) (v := ?_) (a' := ?_) #[true, true, true, true, true, true, true, true, true, true, true, false, false, false] rfl rfl (by kernel_rfl) (fun _ _ _ h => h) (Or.inl ⟨by rfl, ?_⟩) hHeld ?_ ?_
        rotate_left
        · rintro w' ⟨s0_, s1_, s2_, s3_, s4_, s5_, s6_, s7_⟩
          go_simp
          with_reducible rfl
        rotate_left
        · simp only [Act.put, List.setIfInBounds_toArray, List.set_cons_zero, List.set_cons_succ, i64_w, i32_w]
          rfl
        refine take_ (i := 11) (N := some 41) (v := ?_) (a' := ?_) #[true, true, true, true, true, true, true, true, true, true, true, true, false, false] rfl rfl (by kernel_rfl) (fun _ _ _ h => h) (Or.inl ⟨by rfl, ?_⟩) hHeld ?_ ?_
        rotate_left
        · rintro w' ⟨s0_, s1_, s2_, s3_, s4_, s5_, s6_, s7_⟩
          go_simp
          with_reducible rfl
        rotate_left
        · simp only [Act.put, List.setIfInBounds_toArray, List.set_cons_zero, List.set_cons_succ, i64_w, i32_w]
          rfl
        refine one_ (i := 12) (N := some 42) #[true, true, true, true, true, true, true, true, true, true, true, true, true, false] rfl rfl (by kernel_rfl) (by decide) (fun K hK => ?_)
        refine goes_ Try.func36 (by kernel_rfl) rfl #[v, .agg #[.int .i64 p.2.f0, .int .i64 p.2.f1, .int .i64 p.2.f2]] (by rfl) rfl rfl (by (try simp only [List.map_toArray, List.map_cons, List.map_nil]); first | done | rfl) ?_
        refine (insert_calls wc.drew (b + 2) (fun q => (f q = some p.1 ∧ b + 2 ≤ q ∧ q < eb + 1) ∨ wc.heap.size ≤ q) v (nextK E p.1) p.2 (Kd.R_below hRv (below_drew1 (Below.refl _ _))) (by show b + 2 ≤ wc.heap.size; omega) (by have := nextK_len E p.1; omega) (fun q hq => .inr hq) (nextK_srt E p.1)).mono ?_
        rintro e w9 ⟨v9, rfl, ho9, hg9', hat9⟩
        refine ⟨_, rfl, ?_⟩
        have hg9 : wc.grownBy w9 v.ownBlock := ⟨hg9'.os, hg9'.tape, hg9'.output, hg9'.size, hg9'.block⟩
        have e9 : ∀ k, k = b + 1 ∨ k = b ∨ k = b8 ∨ k = b9 → w9.heap[k]? = wc.heap[k]? := fun k hk => hg9.block k (by
          rcases hk with rfl | rfl | rfl | rfl
          · omega
          · omega
          · exact lt_of_blk hk8
          · exact lt_of_blk hk9) (fun h => by
          have := hvo k h.symm
          rcases hk with rfl | rfl | rfl | rfl <;> omega)
        refine hK.out _ _ (HS8.out _ e9) (fun hHeld => ?_)
        clear hK K
        refine norm_ (a' := ?_) ?_ ?_
        rotate_left
        · show Act.put _ (some 42) _ = _
          simp only [Act.put, List.setIfInBounds_toArray, List.set_cons_zero, List.set_cons_succ, i64_w, i32_w]
          rfl
        clear hHeld
        refine last_ (i := 13) (N := none) #[true, true, true, true, true, true, true, true, true, true, true, true, true, true] rfl rfl (by kernel_rfl) (by decide) (fun K hK => ?_)
        obtain ⟨w10, hrun, hm10, hg10⟩ := (hm8.move (e9 b (.inr (.inl rfl)))).update keyLaw24 Try.underlying51 p.1 v9
        have hrun' : (Instr.mapUpdate 51 (.map (some b)) (.agg #[.int .i64 p.1.f0, .int .i64 p.1.f1, .int .i64 p.1.f2]) v9).run Try.prog w9 = .ok () w10 := hrun
        refine skip_ (w1 := w10) (by rfl) rfl ?_ ?_
        · go_simp
        clear hrun hrun'
        refine hK.out _ _ (done_ (by kernel_rfl) ?_)
        clear hK K
        have hsz9 : wc.heap.size ≤ w9.heap.size := hg9.size
        have hsz10 : w9.heap.size ≤ w10.heap.size := hg10.size
        have e10 : ∀ k, k < w9.heap.size → k ≠ b → w10.heap[k]? = w9.heap[k]? := fun k h1 h2 => hg10.block k h1 (fun h => h2 (Option.some.inj h))
        have hR9 : ∀ k, k ≠ p.1 → Kd.R k24 24 w10 (b + 2) (fun q => f q = some k ∧ b + 2 ≤ q ∧ q < eb + 1) ((mget m k).getD (.slice none 0 0)) (nextK E k) := fun k hk =>
          Kd.R_step (hR8 k) (fun q hq hlt => (e10 q (by omega) (by omega)).trans (hg9.block q hlt (fun h => by
            have := (hvo q h.symm).1
            rw [hq.1] at this
            exact hk (Option.some.inj this))))
        have hRk10 : Kd.R k24 24 w10 (b + 2) (fun q => (f q = none ∧ b + 2 ≤ q ∧ q < eb + 1) ∨ w10.heap.size ≤ q) vk (keysK E) :=
          Kd.R_mono (Kd.R_step hRk (fun q hq hlt => (e10 q (by omega) (by omega)).trans (hg9.block q hlt (fun h => by
            have := (hvo q h.symm).1
            rw [hq.1] at this
            cases this)))) (fun q hq => .inl hq)
        have hko : ∀ q, vk.ownBlock = some q → f q = none ∧ b + 2 ≤ q ∧ q < eb + 1 := hRk.1
        have hRp10 : Kd.R k24 24 w10 (b + 2) (fun q => ((f q = some p.1 ∧ q < eb + 1) ∨ wc.heap.size ≤ q) ∧ b + 2 ≤ q ∧ q < w10.heap.size) v9 (insK ltK (nextK E p.1) p.2) :=
          Kd.R_mono (Kd.R_step (Kd.R_bound ho9) (fun q hq hlt => e10 q hlt (by have := hq.2.1; omega))) (fun q hq => ⟨hq.1.imp (fun h => ⟨h.1, h.2.2⟩) id, hq.2.1, by have := hq.2.2.1; omega⟩)
        have e89 : ∀ k, k = b + 1 ∨ k = b8 ∨ k = b9 → w10.heap[k]? = wc.heap[k]? := fun k hk => (e10 k (by
          have h8 := lt_of_blk hk8
          have h9 := lt_of_blk hk9
          rcases hk with rfl | rfl | rfl <;> omega) (by rcases hk with rfl | rfl | rfl <;> omega)).trans (e9 k (by rcases hk with rfl | rfl | rfl <;> simp))
        have hg10' : w10.heap[b + 1]? = some (.cells #[.map (some b), vk] 53 (0, 0)) := (e89 _ (.inl rfl)).trans hg8
        have hk810 := (e89 _ (.inr (.inl rfl))).trans hk8
        have hk910 := (e89 _ (.inr (.inr rfl))).trans hk9
        have hBB10 : Below b w w10 := ((HBB4.out.trans (hb8.mono (by omega))).grown hg9 (by omega) (fun k hk => by have := hvo k hk; omega)).grown hg10 (by omega) (fun k hk => by have := Option.some.inj hk; omega)
        clear hm8 hR8 hRv hvo hRk hg8 hk8 hk9 HS8 e9 hg9 hg9' hat9 ho9 hg10 e10 e89 hv
        go_upto_region 9 with (fail)
        have HS10 := Aside0.mk (show ∀ X : World, (∀ k, k = b + 1 ∨ k = b8 ∨ k = b9 → X.heap[k]? = w10.heap[k]?) → (X.cell? ⟨b + 1, 1, none⟩ = some vk ∧ X.cell? ⟨b8, 0, none⟩ = some (.int .i64 p.1.f0) ∧ X.cell? ⟨b8, 1, none⟩ = some (.int .i64 p.1.f1) ∧ X.cell? ⟨b8, 2, none⟩ = some (.int .i64 p.1.f2) ∧ X.cell? ⟨b9, 0, none⟩ = some (.int .i64 p.2.f0) ∧ X.cell? ⟨b9, 1, none⟩ = some (.int .i64 p.2.f1) ∧ X.cell? ⟨b9, 2, none⟩ = some (.int .i64 p.2.f2)) from fun X hX => by
          have h1 := (hX _ (.inl rfl)).trans hg10'
          have h8 := (hX _ (.inr (.inl rfl))).trans hk810
          have h9 := (hX _ (.inr (.inr rfl))).trans hk910
          exact ⟨(cells_of_blk h1 1).trans rfl, (cells_of_blk h8 0).trans rfl, (cells_of_blk h8 1).trans rfl, (cells_of_blk h8 2).trans rfl, (cells_of_blk h9 0).trans rfl, (cells_of_blk h9 1).trans rfl, (cells_of_blk h9 2).trans rfl⟩)
        have hlt8 := lt_of_blk hk810
        have hlt9 := lt_of_blk hk910
        refine start_ (n := 12) (S := fun X => X.cell? ⟨b + 1, 1, none⟩ = some vk ∧ X.cell? ⟨b8, 0, none⟩ = some (.int .i64 p.1.f0) ∧ X.cell? ⟨b8, 1, none⟩ = some (.int .i64 p.1.f1) ∧ X.cell? ⟨b8, 2, none⟩ = some (.int .i64 p.1.f2) ∧ X.cell? ⟨b9, 0, none⟩ = some (.int .i64 p.2.f0) ∧ X.cell? ⟨b9, 1, none⟩ = some (.int .i64 p.2.f1) ∧ X.cell? ⟨b9, 2, none⟩ = some (.int .i64 p.2.f2)) (ds := [11]) #[false, false, false, false, false, false, false, false, false, false, false, false] (by kernel_rfl) rfl rfl (HS10.out _ (fun _ _ => rfl)) (fun hHeld => ?_)
        refine pure_ (i := 0) (N := some 43) (v := ?_) (a' := ?_) #[true, false, false, false, false, false, false, false, false, false, false, false] rfl rfl (by kernel_rfl) (fun _ _ _ h => h) (Or.inl ⟨by rfl, ?_⟩) ?_ ?_
        rotate_left
        · intro w'
          go_simp
          with_reducible rfl
        rotate_left
        · simp only [Act.put, List.setIfInBounds_toArray, List.set_cons_zero, List.set_cons_succ, i64_w, i32_w]
          rfl
        refine pure_ (i := 1) (N := some 44) (v := ?_) (a' := ?_) #[true, true, false, false, false, false, false, false, false, false, false, false] rfl rfl (by kernel_rfl) (fun _ _ _ h => h) (Or.inl ⟨by rfl, ?_⟩) ?_ ?_
        rotate_left
        · intro w'
          go_simp
          with_reducible rfl
        rotate_left
        · simp only [Act.put, List.setIfInBounds_toArray, List.set_cons_zero, List.set_cons_succ, i64_w, i32_w]
          rfl
        refine pure_ (i := 2) (N := some 45) (v := ?_) (a' := ?_) #[true, true, true, false, false, false, false, false, false, false, false, false] rfl rfl (by kernel_rfl) (fun _ _ _ h => h) (Or.inl ⟨by rfl, ?_⟩) ?_ ?_
        rotate_left
        · intro w'
          go_simp
          with_reducible rfl
        rotate_left
        · simp only [Act.put, List.setIfInBounds_toArray, List.set_cons_zero, List.set_cons_succ, i64_w, i32_w]
          rfl
        refine pure_ (i := 3) (N := some 46) (v := ?_) (a' := ?_) #[true, true, true, true, false, false, false, false, false, false, false, false] rfl rfl (by kernel_rfl) (fun _ _ _ h => h) (Or.inl ⟨by rfl, ?_⟩) ?_ ?_
        rotate_left
        · intro w'
          go_simp
          with_reducible rfl
        rotate_left
        · simp only [Act.put, List.setIfInBounds_toArray, List.set_cons_zero, List.set_cons_succ, i64_w, i32_w]
          rfl
        refine take_ (i := 4) (N := some 47) (v := ?_) (a' := ?_) #[true, true, true, true, true, false, false, false, false, false, false, false] rfl rfl (by kernel_rfl) (fun _ _ _ h => h) (Or.inl ⟨by rfl, ?_⟩) hHeld ?_ ?_
        rotate_left
        · rintro w' ⟨s0_, s1_, s2_, s3_, s4_, s5_, s6_⟩
          go_simp
          with_reducible rfl
        rotate_left
        · simp only [Act.put, List.setIfInBounds_toArray, List.set_cons_zero, List.set_cons_succ, i64_w, i32_w]
          rfl
        refine take_ (i := 5) (N := some 48) (v := ?_) (a' := ?_) #[true, true, true, true, true, true, false, false, false, false, false, false] rfl rfl (by kernel_rfl) (fun _ _ _ h => h) (Or.inl ⟨by rfl, ?_⟩) hHeld ?_ ?_
        rotate_left
        · rintro w' ⟨s0_, s1_, s2_, s3_, s4_, s5_, s6_⟩
          go_simp
          with_reducible rfl
        rotate_left
        · simp only [Act.put, List.setIfInBounds_toArray, List.set_cons_zero, List.set_cons_succ, i64_w, i32_w]
          rfl
        refine take_ (i := 7) (N := some 50) (v := ?_) (a' := ?_) #[true, true, true, true, true, true, false, true, false, false, false, false] rfl rfl (by kernel_rfl) (fun _ _ _ h => h) (Or.inl ⟨by rfl, ?_⟩) hHeld ?_ ?_
        rotate_left
        · rintro w' ⟨s0_, s1_, s2_, s3_, s4_, s5_, s6_⟩
          go_simp
          with_reducible rfl
        rotate_left
        · simp only [Act.put, List.setIfInBounds_toArray, List.set_cons_zero, List.set_cons_succ, i64_w, i32_w]
          rfl
        refine one_ (i := 6) (N := some 49) #[true, true, true, true, true, true, true, true, false, false, false, false] rfl rfl (by kernel_rfl) (by decide) (fun K hK => ?_)
        refine goes_ Try.func36 (by kernel_rfl) rfl #[vk, .agg #[.int .i64 p.1.f0, .int .i64 p.1.f1, .int .i64 p.1.f2]] (by rfl) rfl rfl (by (try simp only [List.map_toArray, List.map_cons, List.map_nil]); first | done | rfl) ?_
        refine (insert_calls w10.drew (b + 2) _ vk (keysK E) p.1 (Kd.R_below hRk10 (below_drew1 (Below.refl _ _))) (by show b + 2 ≤ w10.heap.size; omega) (by have := keysK_len E; omega) (fun q hq => .inr hq) (keysK_srt E)).mono ?_
        rintro e w11 ⟨v11, rfl, ho11, hg11', hat11⟩
        refine ⟨_, rfl, ?_⟩
        have hg11 : w10.grownBy w11 vk.ownBlock := ⟨hg11'.os, hg11'.tape, hg11'.output, hg11'.size, hg11'.block⟩
        have e11 : ∀ k, k = b + 1 ∨ k = b8 ∨ k = b9 → w11.heap[k]? = w10.heap[k]? := fun k hk => hg11.block k (by rcases hk with rfl | rfl | rfl <;> omega) (fun h => by
          have := hko k h.symm
          rcases hk with rfl | rfl | rfl <;> omega)
        refine hK.out _ _ (HS10.out _ e11) (fun hHeld => ?_)
        clear hK K
        refine norm_ (a' := ?_) ?_ ?_
        rotate_left
        · show Act.put _ (some 49) _ = _
          simp only [Act.put, List.setIfInBounds_toArray, List.set_cons_zero, List.set_cons_succ, i64_w, i32_w]
          rfl
        clear hHeld
        have hsz11 : w10.heap.size ≤ w11.heap.size := hg11.size
        refine one_ (i := 8) (N := some 51) #[true, true, true, true, true, true, true, true, true, false, false, false] rfl rfl (by kernel_rfl) (by decide) (fun K hK => ?_)
        refine goes_ Try.func36 (by kernel_rfl) rfl #[v11, .agg #[.int .i64 p.2.f0, .int .i64 p.2.f1, .int .i64 p.2.f2]] (by rfl) rfl rfl (by (try simp only [List.map_toArray, List.map_cons, List.map_nil]); first | done | rfl) ?_
        refine (insert_calls w11 (b + 2) _ v11 _ p.2 ho11 (by omega) (by have := keysK_len E; have h2 := insK_len ltK (keysK E) p.1; omega) (fun q hq => .inr (by omega)) (insK_srt ordK p.1 (keysK_srt E))).mono ?_
        rintro e w12 ⟨v12, rfl, ho12, hg12, hat12⟩
        refine ⟨_, rfl, ?_⟩
        have hvo11 : ∀ q, v11.ownBlock = some q → (f q = none ∧ b + 2 ≤ q ∧ q < eb + 1) ∨ w10.heap.size ≤ q := ho11.1
        have e12 : ∀ k, k = b + 1 ∨ k = b8 ∨ k = b9 → w12.heap[k]? = w10.heap[k]? := fun k hk => (hg12.block k (by rcases hk with rfl | rfl | rfl <;> omega) (fun h => by
          have := hvo11 k h.symm
          rcases hk with rfl | rfl | rfl <;> omega)).trans (e11 k hk)
        refine hK.out _ _ (HS10.out _ e12) (fun hHeld => ?_)
        clear hK K
        refine norm_ (a' := ?_) ?_ ?_
        rotate_left
        · show Act.put _ (some 51) _ = _
          simp only [Act.put, List.setIfInBounds_toArray, List.set_cons_zero, List.set_cons_succ, i64_w, i32_w]
          rfl
        clear hHeld
        have hsz12 : w11.heap.size ≤ w12.heap.size := hg12.size
        refine pure_ (i := 9) (N := some 52) (v := ?_) (a' := ?_) #[true, true, true, true, true, true, true, true, true, true, false, false] rfl rfl (by kernel_rfl) (fun _ _ _ h => h) (Or.inl ⟨by rfl, ?_⟩) ?_ ?_
        rotate_left
        · intro w'
          go_simp
          with_reducible rfl
        rotate_left
        · simp only [Act.put, List.setIfInBounds_toArray, List.set_cons_zero, List.set_cons_succ, i64_w, i32_w]
          rfl
        refine pure_ (i := 10) (N := some 53) (v := ?_) (a' := ?_) #[true, true, true, true, true, true, true, true, true, true, true, false] rfl rfl (by kernel_rfl) (fun _ _ _ h => h) (Or.inl ⟨by rfl, ?_⟩) ?_ ?_
        rotate_left
        · intro w'
          go_simp
          with_reducible rfl
        rotate_left
        · simp only [Act.put, List.setIfInBounds_toArray, List.set_cons_zero, List.set_cons_succ, i64_w, i32_w]
          rfl
        refine last_ (i := 11) (N := none) #[true, true, true, true, true, true, true, true, true, true, true, true] rfl rfl (by kernel_rfl) (by decide) (fun K hK => ?_)
        have hg12' := (e12 _ (.inl rfl)).trans hg10'
        have y0 : w12.cell? ⟨b + 1, 1, none⟩ = some vk := (cells_of_blk hg12' 1).trans rfl
        have y1 := free_of_blk hg12' 1
        obtain ⟨A12, c12, hv12⟩ := Kd.R_slice ho12
        subst hv12
        refine skip_ (w1 := ?_) (by rfl) rfl ?_ ?_
        rotate_left
        · go_simp
          rfl
        refine hK.out _ _ (done_ (by kernel_rfl) ?_)
        clear hK K y0 y1
        have HFIN := Aside0.mk (show GrI (b + 2) (b + 1) b (edgesP rev (l.take (i + 1))) (w12.setCell ⟨b + 1, 1, none⟩ (.slice A12 (insK ltK (insK ltK (keysK E) p.1) p.2).length c12)) ∧ Below b w (w12.setCell ⟨b + 1, 1, none⟩ (.slice A12 (insK ltK (insK ltK (keysK E) p.1) p.2).length c12)) from by
          refine ⟨?_, ((hBB10.grown hg11 (by omega) (fun k hk => by have := hko k hk; omega)).grown hg12 (by omega) (fun k hk => by have := hvo11 k hk; omega)).setCell (by show b ≤ b + 1; omega) _⟩
          rw [hE']
          have hset : ∀ q, q ≠ b + 1 → (w12.setCell ⟨b + 1, 1, none⟩ (.slice A12 (insK ltK (insK ltK (keysK E) p.1) p.2).length c12)).heap[q]? = w12.heap[q]? := fun q hq => Below.heap_setCell _ _ _ _ hq
          have hmv : ∀ q, q < w10.heap.size → (f q = none → q < eb + 1 → False) → q ≠ b + 1 → (w12.setCell ⟨b + 1, 1, none⟩ (.slice A12 (insK ltK (insK ltK (keysK E) p.1) p.2).length c12)).heap[q]? = w10.heap[q]? := fun q hq hn h1 =>
            (hset q h1).trans ((hg12.block q (by omega) (fun h => by
              rcases hvo11 q h.symm with h2 | h2
              · exact hn h2.1 h2.2.2
              · omega)).trans (hg11.block q hq (fun h => hn (hko q h.symm).1 (hko q h.symm).2.2)))
          refine ⟨fun q => if q < eb + 1 then f q else if q < w10.heap.size then some p.1 else none, _, mset m p.1 v9, hb_set hg12' 1 _, hm10.move ?_, ?_, fun k => ?_⟩
          · refine (hset b (by omega)).trans ((hg12.block b (by omega) (fun h => by have := hvo11 b h.symm; omega)).trans (hg11.block b (by omega) (fun h => by have := hko b h.symm; omega)))
          · rw [keysK_snoc]
            refine Kd.R_mono (Kd.R_step (Kd.R_bound ho12) (fun q hq hlt => hset q (by have := hq.2.1; omega))) (fun q hq => ?_)
            rcases hq.1 with h | h
            · show (if q < eb + 1 then f q else _) = none
              rw [if_pos h.2.2]
              exact h.1
            · show (if q < eb + 1 then f q else if q < w10.heap.size then some p.1 else none) = none
              rw [if_neg (by omega), if_neg (by omega)]
          · rw [nextK_snoc]
            by_cases hk : p.1 = k
            · subst hk
              rw [if_pos rfl, mget_mset_same]
              refine Kd.R_mono (Kd.R_step hRp10 (fun q hq hlt => hmv q hlt (fun h1 h2 => ?_) (by have := hq.2.1; omega))) (fun q hq => ?_)
              · rcases hq.1 with h3 | h3
                · rw [h3.1] at h1; cases h1
                · omega
              · show (if q < eb + 1 then f q else if q < w10.heap.size then some p.1 else none) = some p.1
                rcases hq.1 with h3 | h3
                · rw [if_pos h3.2]; exact h3.1
                · rw [if_neg (by omega), if_pos hq.2.2]
            · rw [if_neg hk, mget_mset_ne _ _ hk]
              refine Kd.R_mono (Kd.R_step (hR9 k (Ne.symm hk)) (fun q hq hlt => hmv q hlt (fun h1 h2 => ?_) (by have := hq.2.1; omega))) (fun q hq => ?_)
              · rw [hq.1] at h1; cases h1
              · show (if q < eb + 1 then f q else if q < w10.heap.size then some p.1 else none) = some k
                rw [if_pos hq.2.2]
                exact hq.1)
        clear hR9 hRk10 hko hRp10 hg10' hk810 hk910 hBB10 ho11 hg11' hat11 hg11 e11 ho12 hg12 hat12 hvo11 e12 hg12' HS10 hm10
        go_wp2
        go_roundg (n - (i + 1))
        case measure => omega
        case rel => exact ⟨i + 1, by rw [wrap_id (by omega) (by have := HLN.out; omega)]; rfl, by omega, HFIN⟩
end
section
open Go.Lib Go.Proofs.Ytofonbfpjfabbaa.Hand Go.Proofs.Ytofonbfpjfabbaa.Aid
set_option maxRecDepth 100000 in
set_option maxHeartbeats 16000000 in
theorem cmpK_calls (x y : S24) (w : World) : Calls Try.prog 39 #[encK x, encK y] w fun e w' => e = .returned (.int .i64 (cmpK x y)) ∧ ∃ q os', w' = Go.Sort.grow (w.drewN q) os' := by
  unfold encK
  go_enter Try.func39, Try.ntmps39
  go_upto_region 1 with (fail)
  obtain ⟨b, hb⟩ : ∃ b, w.heap.size = b := ⟨_, rfl⟩
  obtain ⟨W1, hW1⟩ : ∃ W1, (w.alloc (.cells #[.int .i64 x.f0, .int .i64 x.f1, .int .i64 x.f2] 24)).alloc (.cells #[.int .i64 y.f0, .int .i64 y.f1, .int .i64 y.f2] 24) = W1 := ⟨_, rfl⟩
  have hk0 : W1.heap[b]? = some (.cells #[.int .i64 x.f0, .int .i64 x.f1, .int .i64 x.f2] 24 (0, 0)) := by rw [← hb, ← hW1]; exact hb_alloc (hb_new _ _)
  have hk1 : W1.heap[b + 1]? = some (.cells #[.int .i64 y.f0, .int .i64 y.f1, .int .i64 y.f2] 24 (0, 0)) := by
    rw [← hb, ← hW1]
    have := hb_new (w.alloc (.cells #[.int .i64 x.f0, .int .i64 x.f1, .int .i64 x.f2] 24)) (.cells #[.int .i64 y.f0, .int .i64 y.f1, .int .i64 y.f2] 24)
    rwa [World.size_alloc] at this
  have hg1 : ∃ os, W1 = Go.Sort.grow w os := ⟨_, by rw [← hW1, Go.Sort.alloc_eq_grow, Go.Sort.alloc_eq_grow, Go.Sort.grow_grow]⟩
  rw [hW1, hb]
  clear hW1 hb
  have HS := Aside0.mk (show ∀ X : World, X.heap = W1.heap → (X.cell? ⟨b, 0, none⟩ = some (.int .i64 x.f0) ∧ X.cell? ⟨b, 1, none⟩ = some (.int .i64 x.f1) ∧ X.cell? ⟨b, 2, none⟩ = some (.int .i64 x.f2) ∧ X.cell? ⟨b + 1, 0, none⟩ = some (.int .i64 y.f0) ∧ X.cell? ⟨b + 1, 1, none⟩ = some (.int .i64 y.f1) ∧ X.cell? ⟨b + 1, 2, none⟩ = some (.int .i64 y.f2)) from fun X hX => by
    have h0 := (show X.heap[b]? = W1.heap[b]? by rw [hX]).trans hk0
    have h1 := (show X.heap[b + 1]? = W1.heap[b + 1]? by rw [hX]).trans hk1
    exact ⟨(cells_of_blk h0 0).trans rfl, (cells_of_blk h0 1).trans rfl, (cells_of_blk h0 2).trans rfl, (cells_of_blk h1 0).trans rfl, (cells_of_blk h1 1).trans rfl, (cells_of_blk h1 2).trans rfl⟩)
  clear hk0 hk1
  have HG := Aside0.mk hg1
  clear hg1
  have hu24 := Try.underlying24
  refine start_ (n := 18) (S := fun X => X.cell? ⟨b, 0, none⟩ = some (.int .i64 x.f0) ∧ X.cell? ⟨b, 1, none⟩ = some (.int .i64 x.f1) ∧ X.cell? ⟨b, 2, none⟩ = some (.int .i64 x.f2) ∧ X.cell? ⟨b + 1, 0, none⟩ = some (.int .i64 y.f0) ∧ X.cell? ⟨b + 1, 1, none⟩ = some (.int .i64 y.f1) ∧ X.cell? ⟨b + 1, 2, none⟩ = some (.int .i64 y.f2)) (ds := [15, 16]) #[false, false, false, false, false, false, false, false, false, false, false, false, false, false, false, false, false, false] (by kernel_rfl) rfl rfl (HS.out _ rfl) (fun hHeld => ?_)
  refine pure_ (i := 0) (N := some 5) (v := ?_) (a' := ?_) #[true, false, false, false, false, false, false, false, false, false, false, false, false, false, false, false, false, false] rfl rfl (by kernel_rfl) (fun _ _ _ h => h) (Or.inl ⟨by rfl, ?_⟩) ?_ ?_
  rotate_left
  · intro w'
    go_simp
    with_reducible rfl
  rotate_left
  · simp only [Act.put, List.setIfInBounds_toArray, List.set_cons_zero, List.set_cons_succ, i64_w, i32_w]
    rfl
  refine take_ (i := 1) (N := some 6) (v := ?_) (a' := ?_) #[true, true, false, false, false, false, false, false, false, false, false, false, false, false, false, false, false, false] rfl rfl (by kernel_rfl) (fun _ _ _ h => h) (Or.inl ⟨by rfl, ?_⟩) hHeld ?_ ?_
  rotate_left
  · rintro w' ⟨s0_, s1_, s2_, s3_, s4_, s5_⟩
    go_simp
    with_reducible rfl
  rotate_left
  · simp only [Act.put, List.setIfInBounds_toArray, List.set_cons_zero, List.set_cons_succ, i64_w, i32_w]
    rfl
  refine pure_ (i := 2) (N := some 7) (v := ?_) (a' := ?_) #[true, true, true, false, false, false, false, false, false, false, false, false, false, false, false, false, false, false] rfl rfl (by kernel_rfl) (fun _ _ _ h => h) (Or.inl ⟨by rfl, ?_⟩) ?_ ?_
  rotate_left
  · intro w'
    go_simp
    with_reducible rfl
  rotate_left
  · simp only [Act.put, List.setIfInBounds_toArray, List.set_cons_zero, List.set_cons_succ, i64_w, i32_w]
    rfl
  refine take_ (i := 3) (N := some 8) (v := ?_) (a' := ?_) #[true, true, true, true, false, false, false, false, false, false, false, false, false, false, false, false, false, false] rfl rfl (by kernel_rfl) (fun _ _ _ h => h) (Or.inl ⟨by rfl, ?_⟩) hHeld ?_ ?_
  rotate_left
  · rintro w' ⟨s0_, s1_, s2_, s3_, s4_, s5_⟩
    go_simp
    with_reducible rfl
  rotate_left
  · simp only [Act.put, List.setIfInBounds_toArray, List.set_cons_zero, List.set_cons_succ, i64_w, i32_w]
    rfl
  refine pure_ (i := 5) (N := some 10) (v := ?_) (a' := ?_) #[true, true, true, true, false, true, false, false, false, false, false, false, false, false, false, false, false, false] rfl rfl (by kernel_rfl) (fun _ _ _ h => h) (Or.inl ⟨by rfl, ?_⟩) ?_ ?_
  rotate_left
  · intro w'
    go_simp
    with_reducible rfl
  rotate_left
  · simp only [Act.put, List.setIfInBounds_toArray, List.set_cons_zero, List.set_cons_succ, i64_w, i32_w]
    rfl
  refine take_ (i := 6) (N := some 11) (v := ?_) (a' := ?_) #[true, true, true, true, false, true, true, false, false, false, false, false, false, false, false, false, false, false] rfl rfl (by kernel_rfl) (fun _ _ _ h => h) (Or.inl ⟨by rfl, ?_⟩) hHeld ?_ ?_
  rotate_left
  · rintro w' ⟨s0_, s1_, s2_, s3_, s4_, s5_⟩
    go_simp
    with_reducible rfl
  rotate_left
  · simp only [Act.put, List.setIfInBounds_toArray, List.set_cons_zero, List.set_cons_succ, i64_w, i32_w]
    rfl
  refine pure_ (i := 7) (N := some 12) (v := ?_) (a' := ?_) #[true, true, true, true, false, true, true, true, false, false, false, false, false, false, false, false, false, false] rfl rfl (by kernel_rfl) (fun _ _ _ h => h) (Or.inl ⟨by rfl, ?_⟩) ?_ ?_
  rotate_left
  · intro w'
    go_simp
    with_reducible rfl
  rotate_left
  · simp only [Act.put, List.setIfInBounds_toArray, List.set_cons_zero, List.set_cons_succ, i64_w, i32_w]
    rfl
  refine take_ (i := 8) (N := some 13) (v := ?_) (a' := ?_) #[true, true, true, true, false, true, true, true, true, false, false, false, false, false, false, false, false, false] rfl rfl (by kernel_rfl) (fun _ _ _ h => h) (Or.inl ⟨by rfl, ?_⟩) hHeld ?_ ?_
  rotate_left
  · rintro w' ⟨s0_, s1_, s2_, s3_, s4_, s5_⟩
    go_simp
    with_reducible rfl
  rotate_left
  · simp only [Act.put, List.setIfInBounds_toArray, List.set_cons_zero, List.set_cons_succ, i64_w, i32_w]
    rfl
  refine pure_ (i := 10) (N := some 15) (v := ?_) (a' := ?_) #[true, true, true, true, false, true, true, true, true, false, true, false, false, false, false, false, false, false] rfl rfl (by kernel_rfl) (fun _ _ _ h => h) (Or.inl ⟨by rfl, ?_⟩) ?_ ?_
  rotate_left
  · intro w'
    go_simp
    with_reducible rfl
  rotate_left
  · simp only [Act.put, List.setIfInBounds_toArray, List.set_cons_zero, List.set_cons_succ, i64_w, i32_w]
    rfl
  refine take_ (i := 11) (N := some 16) (v := ?_) (a' := ?_) #[true, true, true, true, false, true, true, true, true, false, true, true, false, false, false, false, false, false] rfl rfl (by kernel_rfl) (fun _ _ _ h => h) (Or.inl ⟨by rfl, ?_⟩) hHeld ?_ ?_
  rotate_left
  · rintro w' ⟨s0_, s1_, s2_, s3_, s4_, s5_⟩
    go_simp
    with_reducible rfl
  rotate_left
  · simp only [Act.put, List.setIfInBounds_toArray, List.set_cons_zero, List.set_cons_succ, i64_w, i32_w]
    rfl
  refine pure_ (i := 12) (N := some 17) (v := ?_) (a' := ?_) #[true, true, true, true, false, true, true, true, true, false, true, true, true, false, false, false, false, false] rfl rfl (by kernel_rfl) (fun _ _ _ h => h) (Or.inl ⟨by rfl, ?_⟩) ?_ ?_
  rotate_left
  · intro w'
    go_simp
    with_reducible rfl
  rotate_left
  · simp only [Act.put, List.setIfInBounds_toArray, List.set_cons_zero, List.set_cons_succ, i64_w, i32_w]
    rfl
  refine take_ (i := 13) (N := some 18) (v := ?_) (a' := ?_) #[true, true, true, true, false, true, true, true, true, false, true, true, true, true, false, false, false, false] rfl rfl (by kernel_rfl) (fun _ _ _ h => h) (Or.inl ⟨by rfl, ?_⟩) hHeld ?_ ?_
  rotate_left
  · rintro w' ⟨s0_, s1_, s2_, s3_, s4_, s5_⟩
    go_simp
    with_reducible rfl
  rotate_left
  · simp only [Act.put, List.setIfInBounds_toArray, List.set_cons_zero, List.set_cons_succ, i64_w, i32_w]
    rfl
  refine one_ (i := 4) (N := some 9) #[true, true, true, true, true, true, true, true, true, false, true, true, true, true, false, false, false, false] rfl rfl (by kernel_rfl) (by decide) (fun K hK => ?_)
  refine goes_ Try.func51 (by kernel_rfl) rfl #[.int .i64 x.f0, .int .i64 y.f0] (by rfl) rfl rfl (by (try simp only [List.map_toArray, List.map_cons, List.map_nil]); first | done | rfl) ?_
  refine (cmp_Compare_int.calls _ _ _ _ (cmpI_f x.f0 y.f0)).mono ?_
  rintro e w2 ⟨rfl, h2⟩
  obtain ⟨⟨n2, rfl⟩⟩ := h2
  refine ⟨_, rfl, ?_⟩
  refine hK.out _ _ (HS.out _ rfl) (fun hHeld => ?_)
  clear hK K
  refine norm_ (a' := ?_) ?_ ?_
  rotate_left
  · show Act.put _ (some 9) _ = _
    simp only [Act.put, List.setIfInBounds_toArray, List.set_cons_zero, List.set_cons_succ, i64_w, i32_w]
    rfl
  refine one_ (i := 9) (N := some 14) #[true, true, true, true, true, true, true, true, true, true, true, true, true, true, false, false, false, false] rfl rfl (by kernel_rfl) (by decide) (fun K hK => ?_)
  refine goes_ Try.func51 (by kernel_rfl) rfl #[.int .i64 x.f1, .int .i64 y.f1] (by rfl) rfl rfl (by (try simp only [List.map_toArray, List.map_cons, List.map_nil]); first | done | rfl) ?_
  refine (cmp_Compare_int.calls _ _ _ _ (cmpI_f x.f1 y.f1)).mono ?_
  rintro e w2 ⟨rfl, h2⟩
  obtain ⟨⟨n3, rfl⟩⟩ := h2
  refine ⟨_, rfl, ?_⟩
  refine hK.out _ _ (HS.out _ rfl) (fun hHeld => ?_)
  clear hK K
  refine norm_ (a' := ?_) ?_ ?_
  rotate_left
  · show Act.put _ (some 14) _ = _
    simp only [Act.put, List.setIfInBounds_toArray, List.set_cons_zero, List.set_cons_succ, i64_w, i32_w]
    rfl
  refine one_ (i := 14) (N := some 19) #[true, true, true, true, true, true, true, true, true, true, true, true, true, true, true, false, false, false] rfl rfl (by kernel_rfl) (by decide) (fun K hK => ?_)
  refine goes_ Try.func51 (by kernel_rfl) rfl #[.int .i64 x.f2, .int .i64 y.f2] (by rfl) rfl rfl (by (try simp only [List.map_toArray, List.map_cons, List.map_nil]); first | done | rfl) ?_
  refine (cmp_Compare_int.calls _ _ _ _ (cmpI_f x.f2 y.f2)).mono ?_
  rintro e w2 ⟨rfl, h2⟩
  obtain ⟨⟨n4, rfl⟩⟩ := h2
  refine ⟨_, rfl, ?_⟩
  refine hK.out _ _ (HS.out _ rfl) (fun hHeld => ?_)
  clear hK K
  refine norm_ (a' := ?_) ?_ ?_
  rotate_left
  · show Act.put _ (some 19) _ = _
    simp only [Act.put, List.setIfInBounds_toArray, List.set_cons_zero, List.set_cons_succ, i64_w, i32_w]
    rfl
  obtain ⟨c0, hc0⟩ : ∃ c0, cmpI x.f0 y.f0 = c0 := ⟨_, rfl⟩
  obtain ⟨c1, hc1⟩ : ∃ c1, cmpI x.f1 y.f1 = c1 := ⟨_, rfl⟩
  obtain ⟨c2, hc2⟩ : ∃ c2, cmpI x.f2 y.f2 = c2 := ⟨_, rfl⟩
  obtain ⟨r, hr⟩ : ∃ r, (if c0 ≠ 0 then c0 else if c1 ≠ 0 then c1 else c2) = r := ⟨_, rfl⟩
  have HC := Aside0.mk (show cmpK x y = r by rw [← hr]; unfold cmpK; rw [hc0, hc1, hc2])
  have HOR := Aside0.mk (show cmp_Or_int.f 4 [c0, c1, c2] = some r by rw [← hr]; exact or_f 0 c0 c1 c2)
  clear hr
  simp only [hc0, hc1, hc2]
  clear hc0 hc1 hc2 hHeld
  have HN := Aside0.mk (show ∃ q os', ((W1.drew.drewN n2).drewN n3).drewN n4 = Go.Sort.grow (w.drewN q) os' from by
    obtain ⟨os, ho⟩ := HG.out
    exact ⟨1 + n2 + n3 + n4, os, by rw [ho]; simp [Go.Sort.grow, World.drewN, World.drew, Nat.add_assoc]⟩)
  obtain ⟨W5, hW5⟩ : ∃ W5, ((W1.drew.drewN n2).drewN n3).drewN n4 = W5 := ⟨_, rfl⟩
  rw [hW5] at HN ⊢
  clear hW5 HG HS
  refine last_ (i := 15) (N := some 20) #[true, true, true, true, true, true, true, true, true, true, true, true, true, true, true, true, false, false] rfl rfl (by kernel_rfl) (by decide) (fun K hK => ?_)
  refine value_ (v := .slice (some ⟨W5.heap.size, 0, none⟩) 3 3) (w1 := W5.alloc (.cells #[.int .i64 c0, .int .i64 c1, .int .i64 c2] 3)) (by rfl) rfl ?_ ?_
  · go_simp
  refine hK.out _ _ ?_
  clear hK K
  refine norm_ (a' := ?_) ?_ ?_
  rotate_left
  · show Act.put _ (some 20) _ = _
    simp only [Act.put, List.setIfInBounds_toArray, List.set_cons_zero, List.set_cons_succ, i64_w, i32_w]
    rfl
  have hrow : Kd.C (Kd.int .i64) (W5.alloc (.cells #[.int .i64 c0, .int .i64 c1, .int .i64 c2] 3)) (some ⟨W5.heap.size, 0, none⟩) [c0, c1, c2].length [c0, c1, c2] := by
    refine ⟨rfl, by simp, fun _ => ⟨_, rfl, fun j p hp => ⟨[.int .i64 p], rfl, rfl, fun i u hu => ?_⟩⟩⟩
    rw [Addr.add_lit]
    refine (cells_of_blk (hb_new W5 _) _).trans ?_
    have hi : i = 0 := by
      have := (List.getElem?_eq_some_iff.1 hu).1
      simpa using this
    subst hi
    have hj := (List.getElem?_eq_some_iff.1 hp).1
    obtain rfl | rfl | rfl : j = 0 ∨ j = 1 ∨ j = 2 := by simp at hj; omega
    all_goals
      have hp' := Option.some.inj hp
      have hu' := Option.some.inj hu
      subst hp'
      subst hu'
      rfl
  refine last_ (i := 16) (N := some 21) #[true, true, true, true, true, true, true, true, true, true, true, true, true, true, true, true, true, false] rfl rfl (by kernel_rfl) (by decide) (fun K hK => ?_)
  refine goes_ Try.func50 (by kernel_rfl) rfl #[.slice (some ⟨W5.heap.size, 0, none⟩) 3 3] (by rfl) rfl rfl (by (try simp only [List.map_toArray, List.map_cons, List.map_nil]); first | done | rfl) ?_
  refine (cmp_Or_int.calls 4 (some ⟨W5.heap.size, 0, none⟩) 3 [c0, c1, c2] _ _ hrow (by simp) HOR.out).mono ?_
  rintro e w2 ⟨rfl, h2⟩
  obtain ⟨⟨n5, rfl⟩⟩ := h2
  refine ⟨_, rfl, ?_⟩
  refine hK.out _ _ ?_
  clear hK K hrow
  refine norm_ (a' := ?_) ?_ ?_
  rotate_left
  · show Act.put _ (some 21) _ = _
    simp only [Act.put, List.setIfInBounds_toArray, List.set_cons_zero, List.set_cons_succ, i64_w, i32_w]
    rfl
  refine pure_ (i := 17) (N := some 4) (v := ?_) (a' := ?_) #[true, true, true, true, true, true, true, true, true, true, true, true, true, true, true, true, true, true] rfl rfl (by kernel_rfl) (fun _ _ _ h => h) (Or.inl ⟨by rfl, ?_⟩) ?_ ?_
  rotate_left
  · intro w'
    go_simp
    with_reducible rfl
  rotate_left
  · simp only [Act.put, List.setIfInBounds_toArray, List.set_cons_zero, List.set_cons_succ, i64_w, i32_w]
    rfl
  refine done_ (by kernel_rfl) ?_
  go_wp2
  go_ret
  refine ⟨by rw [HC.out]; rfl, ?_⟩
  obtain ⟨q, os, ho⟩ := HN.out
  exact ⟨q + n5, os.push (.cells #[.int .i64 c0, .int .i64 c1, .int .i64 c2] 3), by rw [ho]; simp [Go.Sort.grow, World.drewN, World.alloc, Nat.add_assoc]⟩
instance : Inhabited S24 := ⟨⟨0, 0, 0⟩⟩
theorem flat24 : Flat k24 rowK where
  len := fun _ => rfl
  pos := by decide
  eq := fun W base ok x cs h => k24_openM h
  make := fun W base ok x => k24_mkM W base ok x
theorem ltOf_cmpK (x y : S24) : ltOf cmpK x y = ltK x y := by
  unfold ltOf
  rw [Bool.eq_iff_iff, decide_eq_true_iff]
  exact cmpK_neg x y
theorem swoK : Go.Sort.SWO (ltOf cmpK) where
  irrefl x := by rw [ltOf_cmpK]; exact ordK.irrefl x
  trans x y z h1 h2 := by rw [ltOf_cmpK] at *; exact ordK.trans _ _ _ h1 h2
  ntrans x y z h1 h2 := by
    rw [ltOf_cmpK] at *
    rw [Bool.eq_false_iff]
    intro h
    cases e : ltK y x with
    | false =>
      have := ordK.total _ _ h1 e
      subst this
      rw [h] at h2
      cases h2
    | true =>
      have := ordK.trans _ _ _ e h
      rw [this] at h2
      cases h2
theorem ordK_asym {x y : S24} (h : ltK x y = true) : ltK y x = false := by
  rw [Bool.eq_false_iff]
  intro k
  have := ordK.trans _ _ _ h k
  rw [ordK.irrefl] at this
  cases this
theorem merge_sortK (xs : List S24) (hn : xs.Nodup) : (xs.mergeSort fun x y => !(ltOf cmpK) y x) = sortK ltK xs := by
  have hp := List.mergeSort_perm xs (fun x y => !(ltOf cmpK) y x)
  have hs := List.pairwise_mergeSort (le := fun x y => !(ltOf cmpK) y x) (fun a b c h k => by
    rw [ltOf_cmpK] at *
    simp only [Bool.not_eq_true'] at *
    have := swoK.ntrans c b a (by rw [ltOf_cmpK]; exact k) (by rw [ltOf_cmpK]; exact h)
    rwa [ltOf_cmpK] at this) (fun a b => by
    rw [ltOf_cmpK, ltOf_cmpK]
    cases e : ltK b a with
    | false => rfl
    | true => rw [ordK_asym e]; rfl) xs
  refine srt_ext ordK ?_ (sortK_srt ordK xs) (fun x => by rw [mem_sortK, hp.mem_iff])
  have hnd : (xs.mergeSort fun x y => !(ltOf cmpK) y x).Nodup := hp.nodup_iff.2 hn
  unfold Srt
  refine (List.Pairwise.and hs hnd).imp (fun {a b} h => ?_)
  obtain ⟨h1, h2⟩ := h
  rw [ltOf_cmpK] at h1
  cases e : ltK a b with
  | true => rfl
  | false => exact absurd (ordK.total a b e (by simpa using h1)) h2
/-- slices.SortFunc(row, compareKeys). -/
theorem sort_keys (w : World) (base : Nat) (ok : Nat → Prop) (v : Value) (xs : List S24) (HO : Kd.R k24 24 w base ok v xs) (hn : xs.Nodup) (hlen : xs.length < 1000000) :
    Calls Try.prog 38 #[v, .func (.func 39) #[] #[]] w fun e w' => e = .returned (.tuple #[]) ∧ Kd.R k24 24 w' base ok v (sortK ltK xs) ∧ Chg (fun k => some k = v.ownBlock) w w' := by
  have ho := own_of_R24 HO
  rcases ho.2 with ⟨rfl, h0⟩ | ⟨g, cap, cur, rfl, hg0, hg, hnc, hmc, hcs, ht⟩
  · have e0 : xs = [] := List.eq_nil_of_length_eq_zero h0
    subst e0
    have := AnyF.slices_SortFunc_none (P := Try.prog) SortKeysLay5_L none 0 (.func (.func 39) #[] #[]) w
    refine Calls.mono this ?_
    rintro e w' ⟨rfl, rfl⟩
    exact ⟨rfl, HO, Chg.refl _ _⟩
  · obtain ⟨hH, hgl2, _⟩ := R_holds flat24 HO
    have eg : ∀ args w, (callFunc 39 args).run Try.prog w = .ok (.enter 39 args) w := enters_of Try.func39 (by kernel_rfl) rfl
    have hcon := AnyQ.slices_SortFunc_total (P := Try.prog) SortKeysLay5_L 3 Try.isAgg24 Try.sizeOf24 rowK (fun _ => rfl) (fun x v hv => rowsK_one [x] v (by simpa [rowsK] using hv)) cmpK swoK 39 #[] g 0 cap xs.toArray w eg (fun _ _ _ _ x y => cmpK_calls x y _) hH hgl2 (by simp; omega) (fun x y h k => by rw [ltOf_cmpK] at *; exact ordK.total _ _ h k)
    change Calls Try.prog 38 _ _ _ at hcon
    rw [List.size_toArray] at hcon
    refine Calls.mono hcon ?_
    rintro e w' ⟨rfl, n9, os, rfl⟩
    rw [merge_sortK xs hn]
    have hsz : (sortK ltK xs).length = xs.length := by
      rw [← merge_sortK xs hn, List.length_mergeSort]
    refine ⟨rfl, R_sorted flat24 HO n9 _ os (by simpa using hsz), (chg_sort (d := k24)).mono (fun k _ e => by rw [e]; rfl)⟩
end
section
open Go.Lib Go.Proofs.Ytofonbfpjfabbaa.Hand Go.Proofs.Ytofonbfpjfabbaa.Aid
theorem info24_ : (Try.prog.info? 24).map (fun i => (i.zero, i.size, i.bytes)) = some (some (.agg #[.int .i64 0, .int .i64 0, .int .i64 0]), k24.sz, 24) := by kernel_rfl
theorem K_M24 {W W' : World} {base : Nat} {ok : Nat → Prop} {x : S24} {cs : List Value} (h : k24.K W x cs) : k24.M W' base ok x cs := by
  rw [k24_open h]
  exact k24_mkM _ _ _ x
theorem stop_ {p : Prop} (h : Aside0 p) : p := h.out
set_option maxRecDepth 100000 in
set_option maxHeartbeats 8000000 in
theorem clone_calls (A : Option Addr) (c : Nat) (xs : List S24) (w : World) (hr : Kd.C k24 w A xs.length xs) (hc : xs.length ≤ c) (hl : xs.length < 1000000) :
    Calls Try.prog 37 #[.slice A xs.length c] w fun e w' => ∃ v, e = .returned v ∧ Kd.R k24 24 w' w.heap.size (fun _ => True) v xs ∧ Below w.heap.size w w' := by
  have q22 : ∀ (w : World) (a : Option Addr) (n c n' c' : Nat), (binOp .eql 27 (.slice a n c) (.slice none n' c')).run Try.prog w = .ok (.bool a.isNone) w := fun w a n c n' c' => Lib.run_eql_slice_nil w _ _ a n c n' c' Try.underlying27
  have HR0 := Aside0.mk hr
  have HL0 := Aside0.mk hl
  cases A with
  | none =>
    have e0 : xs = [] := by
      cases xs with
      | nil => rfl
      | cons x t => exact absurd hr (by intro hC; obtain ⟨ad, c, e, _⟩ := Kd.C_get hC x 0 (by omega) (by simp); cases e)
    subst e0
    clear hr hc hl
    go_enter Try.func37, Try.ntmps37
    go_wp2
    go_ret
    exact ⟨_, rfl, Kd.R_nil _ _ _ _ _, Below.refl _ _⟩
  | some ad =>
    clear hr hc hl
    go_enter Try.func37, Try.ntmps37
    go_wp2_with (first | ((with_reducible refine gate_builtin (b := .append) (xs := #[.tmp 5, .tmp 6]) rfl ?_); at_builtin; refine stop_ ?_))
    refine ⟨?_⟩
    refine Kd.R_append_rows k24 (Rr := k24.K (w.alloc (.cells #[] 24))) (w0 := w) w.heap.size rfl (.tmp 5) (.tmp 6) 27 24 (.agg #[.int .i64 0, .int .i64 0, .int .i64 0]) 24 rfl Try.underlying27 info24_ rfl (by decide) (by omega) (.slice (some ⟨w.heap.size, 0, none⟩) 0 0) ([] : List S24) xs _ _ _ (fun _ => True) (fun _ => False) rfl rfl ?aO ?aR (fun x cs h => K_M24 h) (fun _ h => h.elim) ?aF ?aB ?aS ?aL ?_
    case aO => exact ⟨fun _ _ => trivial, [], World.ownsRow_made w #[] 0 (Nat.le_refl _) (Nat.zero_le _) rfl, ⟨by simp, fun j p hj => by simp at hj⟩⟩
    case aR => exact Kd.C_alloc HR0.out _
    case aB => exact below_alloc (Below.refl _ _) _
    case aF => exact (fun _ _ => trivial)
    case aS => exact below_size (below_alloc (Below.refl _ _) _)
    case aL => have := HL0.out; simp only [List.length_nil]; omega
    intro v129 w3 ho hb hg hat
    go_wp2
    go_ret
    exact ⟨_, rfl, ho, hb⟩
theorem nx_mem (E : List (S24 × S24)) (x y : S24) : y ∈ nextK E x ↔ (x, y) ∈ E := by
  unfold nextK
  rw [mem_sortK, List.mem_map]
  constructor
  · rintro ⟨⟨a, b⟩, h, rfl⟩
    rw [List.mem_filter] at h
    obtain rfl : a = x := by simpa using h.2
    exact h.1
  · intro h
    exact ⟨(x, y), List.mem_filter.2 ⟨h, by simp⟩, rfl⟩
def ones (l : List S24) : List (S24 × Value) := l.map (fun k => (k, .int .i64 1))
theorem ones_keys (l : List S24) : (ones l).map Prod.fst = l := by unfold ones; rw [List.map_map]; exact List.map_id' l
theorem mget_ones (l : List S24) (k : S24) : (mget (ones l) k).getD (.int .i64 0) = .int .i64 (if k ∈ l then 1 else 0) := by
  induction l with
  | nil => rfl
  | cons a t ih =>
    show (mget ((a, Value.int .i64 1) :: ones t) k).getD _ = _
    rw [mget]
    by_cases h : a = k
    · rw [if_pos h, if_pos (by rw [h]; exact List.mem_cons_self)]; rfl
    · rw [if_neg h, ih]
      by_cases h2 : k ∈ t
      · rw [if_pos h2, if_pos (List.mem_cons_of_mem _ h2)]
      · rw [if_neg h2, if_neg (fun h3 => (List.mem_cons.1 h3).elim (fun e => h e.symm) h2)]
theorem mset_ones (l : List S24) (k : S24) (hk : k ∉ l) : mset (ones l) k (.int .i64 1) = ones (l ++ [k]) := by
  induction l with
  | nil => rfl
  | cons a t ih =>
    show mset ((a, Value.int .i64 1) :: ones t) k _ = (a, Value.int .i64 1) :: ones (t ++ [k])
    rw [mset, if_neg (fun h => hk (by rw [show k = a from h.symm]; exact List.mem_cons_self)), ih (fun h => hk (List.mem_cons_of_mem _ h))]
/-- What the search leads to: the keys that an edge or more leads to, sorted. -/
def reachR (E : List (S24 × S24)) (key : S24) : List S24 := sortK ltK (fixK E key)
theorem sum_le_mul (f : S24 → Nat) (n : Nat) (h : ∀ k, f k ≤ n) : ∀ l : List S24, (l.map f).sum ≤ l.length * n
  | [] => Nat.zero_le _
  | a :: t => by
    have := sum_le_mul f n h t
    have := h a
    rw [List.map_cons, List.sum_cons, List.length_cons, Nat.add_mul]
    omega
theorem dfsM_le (E : List (S24 × S24)) (hE : E.length ≤ 400) (res pend : List S24) : pend.length ≤ dfsM (nextK E) (keysK E) res pend ∧ dfsM (nextK E) (keysK E) res pend ≤ pend.length + 320000 := by
  unfold dfsM
  have h1 := sum_le_mul (fun k => (nextK E k).length) E.length (fun k => nextK_len E k) ((keysK E).filter (fun k => !decide (k ∈ res)))
  have h2 := List.length_filter_le (fun k => !decide (k ∈ res)) (keysK E)
  have h3 := keysK_len E
  have h4 : ((keysK E).filter (fun k => !decide (k ∈ res))).length * E.length ≤ 800 * 400 := Nat.mul_le_mul (by omega) hE
  omega
/-- What holds ahead of each round. -/
structure RchI (E : List (S24 × S24)) (key : S24) (b : Nat) (w W : World) (v5 v7 : Value) (res pend : List S24) : Prop where
  dfs : Dfs E (nextK E) key res pend
  r5 : Kd.R k24 24 W (b + 2) (fun q => some q ≠ v7.ownBlock) v5 res
  r7 : Kd.R k24 24 W (b + 2) (fun q => some q ≠ v5.ownBlock) v7 pend
  seen : MapIs encK W (b + 1) (ones res)
  bel : Below b w W
  meas : dfsM (nextK E) (keysK E) res pend ≤ 320400
theorem RchI.len {E : List (S24 × S24)} {key : S24} {b : Nat} {w W : World} {v5 v7 : Value} {res pend : List S24} (h : RchI E key b w W v5 v7 res pend) : res.length ≤ E.length := fnd_len (key := key) ⟨h.dfs.nodup, fun x hx => h.dfs.reach x (.inl hx)⟩
theorem RchI.below {E : List (S24 × S24)} {key : S24} {b : Nat} {w W W' : World} {v5 v7 : Value} {res pend : List S24} (h : RchI E key b w W v5 v7 res pend) (hb : Below W.heap.size W W') (hle : b ≤ W.heap.size) : RchI E key b w W' v5 v7 res pend :=
  ⟨h.dfs, Kd.R_below h.r5 hb, Kd.R_below h.r7 hb, h.seen.below hb h.seen.lt, h.bel.trans (hb.mono hle), h.meas⟩
theorem keysK_nx (E : List (S24 × S24)) (k : S24) (h : k ∉ keysK E) : nextK E k = [] := by
  cases e : nextK E k with
  | nil => rfl
  | cons y t =>
    have hm : (k, y) ∈ E := (nx_mem E k y).1 (by rw [e]; exact List.mem_cons_self)
    refine absurd ?_ h
    unfold keysK
    rw [mem_sortK, List.mem_flatMap]
    exact ⟨_, hm, by simp⟩
theorem zero3 (W : World) : (zeroValue 3).run Try.prog W = .ok (.int .i64 0) W := by kernel_rfl
set_option maxRecDepth 100000 in
set_option maxHeartbeats 16000000 in
theorem reachable_calls (g mb : Nat) (E : List (S24 × S24)) (key : S24) (w : World) (hG : GrC g mb E w) (hE : E.length ≤ 400) :
    Calls Try.prog 22 #[.pointer (some ⟨g, 0, none⟩), encK key] w fun e w' => ∃ v, e = .returned v ∧ Kd.R k24 24 w' w.heap.size (fun _ => True) v (reachR E key) ∧ Below w.heap.size w w' := by
  unfold encK
  have HG := Aside0.mk hG
  have HE := Aside0.mk hE
  clear hG hE
  have hmm := @run_makeMap Try.prog
  go_enter Try.func22, Try.ntmps22
  go_upto_region 3 with (fail)
  obtain ⟨b, hb⟩ : ∃ b, w.heap.size = b := ⟨_, rfl⟩
  obtain ⟨W2, hW2⟩ : ∃ W2, (w.alloc (.cells #[.int .i64 key.f0, .int .i64 key.f1, .int .i64 key.f2] 24)).alloc (.map #[] 0) = W2 := ⟨_, rfl⟩
  have hb2 : Below b w W2 := by rw [← hb, ← hW2]; exact below_alloc (below_alloc (Below.refl _ _) _) _
  have hk2 : W2.heap[b]? = some (.cells #[.int .i64 key.f0, .int .i64 key.f1, .int .i64 key.f2] 24 (0, 0)) := by rw [← hb, ← hW2]; exact hb_alloc (hb_new _ _)
  have hs2 : MapIs encK W2 (b + 1) (ones []) := by
    rw [← hb, ← hW2]
    have := MapIs.new (enc := encK) (w.alloc (.cells #[.int .i64 key.f0, .int .i64 key.f1, .int .i64 key.f2] 24))
    rwa [World.size_alloc] at this
  have hz2 : W2.heap.size = b + 2 := by rw [← hb, ← hW2]; simp
  have hg2 : GrC g mb E W2 := HG.out.below (by rw [hb]; exact hb2)
  rw [hW2, hb]
  clear hW2 hmm
  obtain ⟨Ak, ck, m, h1, h2, h3, h4, h5⟩ := hg2
  obtain ⟨A7, c7, e7, hc7, hr7⟩ := h5 key
  have HG2 := Aside0.mk (show GrC g mb E W2 from ⟨Ak, ck, m, h1, h2, h3, h4, h5⟩)
  have HS2 := Aside0.mk (show ∀ X, Below W2.heap.size W2 X → (X.cell? ⟨g, 0, none⟩ = some (.map (some mb)) ∧ X.cell? ⟨b, 0, none⟩ = some (.int .i64 key.f0) ∧ X.cell? ⟨b, 1, none⟩ = some (.int .i64 key.f1) ∧ X.cell? ⟨b, 2, none⟩ = some (.int .i64 key.f2) ∧ (Instr.lookup 51 (.map (some mb)) (.agg #[.int .i64 key.f0, .int .i64 key.f1, .int .i64 key.f2]) false).run Try.prog X = .ok (.slice A7 (nextK E key).length c7) X) from fun X hX => by
    have hk := (hX.block _ (lt_of_blk hk2)).trans hk2
    have hg := (hX.block _ (lt_of_blk h1)).trans h1
    refine ⟨(cells_of_blk hg 0).trans rfl, (cells_of_blk hk 0).trans rfl, (cells_of_blk hk 1).trans rfl, (cells_of_blk hk 2).trans rfl, ?_⟩
    have h := (h4.below hX h4.lt).lookup keyLaw24 Try.underlying51 (zero27 X) key false
    rw [e7] at h
    exact h)
  clear h1 h2 h3 h4 h5 e7 hk2
  have hnl := nextK_len E key
  refine start_ (n := 8) (S := fun X => X.cell? ⟨g, 0, none⟩ = some (.map (some mb)) ∧ X.cell? ⟨b, 0, none⟩ = some (.int .i64 key.f0) ∧ X.cell? ⟨b, 1, none⟩ = some (.int .i64 key.f1) ∧ X.cell? ⟨b, 2, none⟩ = some (.int .i64 key.f2) ∧ (Instr.lookup 51 (.map (some mb)) (.agg #[.int .i64 key.f0, .int .i64 key.f1, .int .i64 key.f2]) false).run Try.prog X = .ok (.slice A7 (nextK E key).length c7) X) (ds := [6]) #[false, false, false, false, false, false, false, false] (by kernel_rfl) rfl rfl (HS2.out _ (below_drew1 (Below.refl _ _))) (fun hHeld => ?_)
  refine pure_ (i := 0) (N := some 10) (v := ?_) (a' := ?_) #[true, false, false, false, false, false, false, false] rfl rfl (by kernel_rfl) (fun _ _ _ h => h) (Or.inl ⟨by rfl, ?_⟩) ?_ ?_
  rotate_left
  · intro w'
    go_simp
    with_reducible rfl
  rotate_left
  · simp only [Act.put, List.setIfInBounds_toArray, List.set_cons_zero, List.set_cons_succ, i64_w, i32_w]
    rfl
  refine pure_ (i := 1) (N := some 11) (v := ?_) (a' := ?_) #[true, true, false, false, false, false, false, false] rfl rfl (by kernel_rfl) (fun _ _ _ h => h) (Or.inl ⟨by rfl, ?_⟩) ?_ ?_
  rotate_left
  · intro w'
    go_simp
    with_reducible rfl
  rotate_left
  · simp only [Act.put, List.setIfInBounds_toArray, List.set_cons_zero, List.set_cons_succ, i64_w, i32_w]
    rfl
  refine pure_ (i := 2) (N := some 12) (v := ?_) (a' := ?_) #[true, true, true, false, false, false, false, false] rfl rfl (by kernel_rfl) (fun _ _ _ h => h) (Or.inl ⟨by rfl, ?_⟩) ?_ ?_
  rotate_left
  · intro w'
    go_simp
    with_reducible rfl
  rotate_left
  · simp only [Act.put, List.setIfInBounds_toArray, List.set_cons_zero, List.set_cons_succ, i64_w, i32_w]
    rfl
  refine take_ (i := 3) (N := some 13) (v := ?_) (a' := ?_) #[true, true, true, true, false, false, false, false] rfl rfl (by kernel_rfl) (fun _ _ _ h => h) (Or.inl ⟨by rfl, ?_⟩) hHeld ?_ ?_
  rotate_left
  · rintro w' ⟨s0_, s1_, s2_, s3_, s4_⟩
    go_simp
    with_reducible rfl
  rotate_left
  · simp only [Act.put, List.setIfInBounds_toArray, List.set_cons_zero, List.set_cons_succ, i64_w, i32_w]
    rfl
  refine take_ (i := 4) (N := some 14) (v := ?_) (a' := ?_) #[true, true, true, true, true, false, false, false] rfl rfl (by kernel_rfl) (fun _ _ _ h => h) (Or.inl ⟨by rfl, ?_⟩) hHeld ?_ ?_
  rotate_left
  · rintro w' ⟨s0_, s1_, s2_, s3_, s4_⟩
    go_simp
    with_reducible rfl
  rotate_left
  · simp only [Act.put, List.setIfInBounds_toArray, List.set_cons_zero, List.set_cons_succ, i64_w, i32_w]
    rfl
  refine take_ (i := 5) (N := some 15) (v := ?_) (a' := ?_) #[true, true, true, true, true, true, false, false] rfl rfl (by kernel_rfl) (fun _ _ _ h => h) (Or.inl ⟨by rfl, ?_⟩) hHeld ?_ ?_
  rotate_left
  · rintro w' ⟨s0_, s1_, s2_, s3_, s4_⟩
    go_simp
    with_reducible rfl
  rotate_left
  · simp only [Act.put, List.setIfInBounds_toArray, List.set_cons_zero, List.set_cons_succ, i64_w, i32_w]
    rfl
  refine last_ (i := 6) (N := some 16) #[true, true, true, true, true, true, true, false] rfl rfl (by kernel_rfl) (by decide) (fun K hK => ?_)
  refine goes_ Try.func37 (by kernel_rfl) rfl #[.slice A7 (nextK E key).length c7] (by rfl) rfl rfl (by (try simp only [List.map_toArray, List.map_cons, List.map_nil]); first | done | rfl) ?_
  refine (clone_calls A7 c7 (nextK E key) W2.drew (Kd.C_drew hr7) hc7 (by have := HE.out; omega)).mono ?_
  rintro e w3 ⟨v7, rfl, hr3, hb3⟩
  refine ⟨_, rfl, ?_⟩
  refine hK.out _ _ ?_
  clear hK K hHeld
  refine norm_ (a' := ?_) ?_ ?_
  rotate_left
  · show Act.put _ (some 16) _ = _
    simp only [Act.put, List.setIfInBounds_toArray, List.set_cons_zero, List.set_cons_succ, i64_w, i32_w]
    rfl
  refine pure_ (i := 7) (N := some 7) (v := ?_) (a' := ?_) #[true, true, true, true, true, true, true, true] rfl rfl (by kernel_rfl) (fun _ _ _ h => h) (Or.inl ⟨by rfl, ?_⟩) ?_ ?_
  rotate_left
  · intro w'
    go_simp
    with_reducible rfl
  rotate_left
  · simp only [Act.put, List.setIfInBounds_toArray, List.set_cons_zero, List.set_cons_succ, i64_w, i32_w]
    rfl
  refine done_ (by kernel_rfl) ?_
  have hb23 : Below W2.heap.size W2 w3 := (below_drew1 (Below.refl _ _)).trans hb3
  obtain ⟨Ap, cp, hv⟩ := Kd.R_slice hr3
  subst hv
  have HBW := Aside0.mk hb
  have HB3 := Aside0.mk (hb2.trans (hb23.mono (by omega)))
  have HS3 := Aside0.mk (hs2.below hb23 (by omega))
  have HG3 := Aside0.mk (HG2.out.below hb23)
  have HR3 := Aside0.mk (show Kd.R k24 24 w3 (b + 2) (fun q => True) (.slice Ap (nextK E key).length cp) (nextK E key) from Kd.R_lower hr3 (by show b + 2 ≤ W2.heap.size; omega))
  have HZ3 := Aside0.mk (show b + 2 ≤ w3.heap.size by have := hb23.size; omega)
  clear hb hb2 hs2 hz2 hr7 hc7 HG2 HS2 hnl hr3 hb3 hb23
  go_wp2
  go_loopg [5, 7] (dfsM (nextK E) (keysK E) [] (nextK E key)) (fun kq v5 v7 W => ∃ (res pend : List S24) (A5 : Option Addr) (c5 : Nat) (A7 : Option Addr) (c7 : Nat), v5 = .slice A5 res.length c5 ∧ v7 = .slice A7 pend.length c7 ∧ kq = dfsM (nextK E) (keysK E) res pend ∧ Aside0 (RchI E key b w W (.slice A5 res.length c5) (.slice A7 pend.length c7) res pend))
  case atStart => exact ⟨[], nextK E key, none, 0, Ap, cp, rfl, rfl, rfl, ⟨Dfs.start (nx_mem E) key, Kd.R_nil _ _ _ _ _, Kd.R_mono HR3.out (fun q _ => by simp [Value.ownBlock]), HS3.out, HB3.out, by have h1 := (dfsM_le E HE.out [] (nextK E key)).2; have h2 := nextK_len E key; have h3 := HE.out; omega⟩⟩
  case round =>
    obtain ⟨res, pend, A5, c5, A7, c7, rfl, rfl, hgk, hI⟩ := hrel
    have HMX := Aside0.mk (dfsM_le E HE.out res pend).1
    rcases List.eq_nil_or_concat pend with rfl | ⟨pd, k, hpd⟩
    · have hd := Dfs.done (nx_mem E) hI.out.dfs
      have HFIN := Aside0.mk (show reachR E key = sortK ltK res from sortK_ext ordK (fun x => by rw [mem_fixK, hd x]))
      clear hd hgk
      have HC := Aside0.mk (sort_keys wr (b + 2) _ (.slice A5 res.length c5) res hI.out.r5 hI.out.dfs.nodup (by have h1 := hI.out.len; have h2 := HE.out; omega))
      go_wp2_with (first | (go_at_call 38; refine HC.out.mono ?_; rintro e w9 ⟨rfl, hr9, hc9⟩; have HR9 := Aside0.mk hr9; have HC9 := Aside0.mk hc9; clear hr9 hc9))
      go_ret
      refine ⟨_, rfl, ?_, ?_⟩
      · rw [HFIN.out]
        exact Kd.R_lower (Kd.R_mono HR9.out (fun _ _ => trivial)) (by have := HBW.out; omega)
      · rw [HBW.out]
        exact hI.out.bel.trans (HC9.out.to_below (fun k _ e => by
          have := own_base (own_of_R24 hI.out.r5) k e.symm
          omega) (by have := hI.out.bel.size; have := HBW.out; omega))
    · obtain rfl : pend = pd ++ [k] := by simpa using hpd
      clear hpd
      have hgk1 : gk = dfsM (nextK E) (keysK E) res pd + 1 := by rw [hgk, dfsM_skip]
      have hlen : (pd ++ [k]).length = pd.length + 1 := by simp
      obtain ⟨n, hn⟩ : ∃ n, pd.length = n := ⟨_, rfl⟩
      have HI := Aside0.mk hI.out
      clear hI
      rw [hlen, hn] at HI
      rw [hlen, hn]
      have hread := Kd.R_reads' HI.out.r7
      obtain ⟨hw1, hw2, hw3⟩ := hread
      obtain ⟨ad, rfl, x0, x1, x2⟩ := at_T24 hw3 (n : Int) (by omega) (by simp; omega)
      have hrd : rd_T24 (pd ++ [k]) (n : Int) = k := by
        rw [rd24_at _ _ (by simp; omega)]
        rw [List.getElem_append_right (by omega)]
        simp
      rw [Int.toNat_natCast, hrd] at x0 x1 x2
      have hmax : n + 1 ≤ 9223372036854775807 := by have := (Kd.C_max hw3); simpa [hn] using this
      have HN := Aside0.mk (show n ≤ 320400 by have h1 := (dfsM_le E HE.out res (pd ++ [k])).1; have h2 := HI.out.meas; omega)
      have hn4 : n ≤ 320400 := HN.out
      have hcn : n + 1 ≤ c7 := hw2
      clear hw1 hw2 hw3 hmax
      have t0 : decide ((((n + 1 : Nat) : Int)) > 0) = true := decide_eq_true (by omega)
      have t1 : wrap64 (((n + 1 : Nat) : Int) - 1) = (n : Int) := by rw [wrap_id (by omega) (by omega)]; omega
      have t2 : wrap64 ((n : Int) + 1 - 1) = (n : Int) := by rw [wrap_id (by omega) (by omega)]; omega
      have t3 : (0 : Int) ≤ (n : Int) := by omega
      have t4 : (n : Int) < (n : Int) + 1 := by omega
      have t5 : (n : Int) ≤ (c7 : Int) := by omega
      go_upto_region 7 with (fail)
      obtain ⟨kb, hkb⟩ : ∃ kb, wr.heap.size = kb := ⟨_, rfl⟩
      obtain ⟨W5, hW5⟩ : ∃ W5, wr.alloc (.cells #[.int .i64 k.f0, .int .i64 k.f1, .int .i64 k.f2] 24) = W5 := ⟨_, rfl⟩
      have hb5 : Below wr.heap.size wr W5 := by rw [← hW5]; exact below_alloc (Below.refl _ _) _
      have hk5 : W5.heap[kb]? = some (.cells #[.int .i64 k.f0, .int .i64 k.f1, .int .i64 k.f2] 24 (0, 0)) := by rw [← hkb, ← hW5]; exact hb_new _ _
      have hbr : b + 2 ≤ kb := by
        have h := HI.out.seen.lt
        have h2 := HI.out.bel.size
        rw [hkb] at h
        omega
      have hI5 := HI.out.below hb5 (by omega)
      have HNK := Aside0.mk (show (Value.slice A5 res.length c5).ownBlock ≠ some kb from fun h => by
        have := own_lt (own_of_R24 HI.out.r5) kb h
        omega)
      rw [hW5, hkb]
      clear hW5 hgk HMX hrd x0 x1 x2 t0 t1 t2 t3 t4 t5 HI hcn
      have hr7 : Kd.R k24 24 W5 (b + 2) (fun q => some q ≠ (Value.slice A5 res.length c5).ownBlock) (.slice (some ad) n c7) pd := by
        have h := Kd.R_take (m := n) hI5.r7 (by simp; omega)
        rwa [List.take_left' hn] at h
      have HLK := Aside0.mk (show (Instr.lookup 50 (.map (some (b + 1))) (.agg #[.int .i64 k.f0, .int .i64 k.f1, .int .i64 k.f2]) false).run Try.prog W5 = .ok (.int .i64 (if k ∈ res then 1 else 0)) W5 from by
        have h := hI5.seen.lookup keyLaw24 Try.underlying50 (zero3 W5) k false
        simp only [Bool.false_eq_true, if_false] at h
        rw [mget_ones] at h
        exact h)
      have HI5 := Aside0.mk hI5
      have HR7 := Aside0.mk hr7
      have HK5 := Aside0.mk hk5
      have HKB := Aside0.mk (And.intro hkb (And.intro hbr hb5.size))
      have y0 : W5.cell? ⟨kb, 0, none⟩ = some (.int .i64 k.f0) := (cells_of_blk hk5 0).trans rfl
      have y1 : W5.cell? ⟨kb, 1, none⟩ = some (.int .i64 k.f1) := (cells_of_blk hk5 1).trans rfl
      have y2 : W5.cell? ⟨kb, 2, none⟩ = some (.int .i64 k.f2) := (cells_of_blk hk5 2).trans rfl
      clear hkb hb5 hk5 hbr hI5 hr7
      by_cases hk : k ∈ res
      · have hlk := HLK.out
        rw [if_pos hk] at hlk
        go_wp2
        go_roundg (dfsM (nextK E) (keysK E) res pd)
        case measure => omega
        case rel => exact ⟨res, pd, A5, c5, some ad, c7, rfl, by rw [hn], rfl, ⟨HI5.out.dfs.skip hk, by rw [hn]; exact HI5.out.r5, by rw [hn]; exact HR7.out, HI5.out.seen, HI5.out.bel, by
          have h1 := HI5.out.meas
          have h2 := dfsM_skip (nextK E) (keysK E) res pd k
          omega⟩⟩
      · have hlk := HLK.out
        rw [if_neg hk] at hlk
        obtain ⟨W6, hrun, hm6, hg6⟩ := HI5.out.seen.update keyLaw24 Try.underlying50 k (.int .i64 1)
        rw [mset_ones res k hk] at hm6
        have hrun' : (Instr.mapUpdate 50 (.map (some (b + 1))) (.agg #[.int .i64 k.f0, .int .i64 k.f1, .int .i64 k.f2]) (.int .i64 1)).run Try.prog W5 = .ok () W6 := hrun
        go_upto_region 9 with (fail)
        have hkb := HKB.out
        have hI5 := HI5.out
        have hsz6 : W5.heap.size ≤ W6.heap.size := hg6.size
        have hkl5 := lt_of_blk HK5.out
        have e6 : ∀ q, q < W5.heap.size → q ≠ b + 1 → W6.heap[q]? = W5.heap[q]? := fun q h1 h2 => hg6.block q h1 (fun h => h2 (Option.some.inj h))
        have hr56 : Kd.R k24 24 W6 (b + 2) (fun q => some q ≠ some ad.block) (.slice A5 res.length c5) res := Kd.R_mono (Kd.R_step (Kd.R_bound hI5.r5) (fun q hq hlt => e6 q hlt (by have := hq.2.1; omega))) (fun q hq => hq.1)
        have hr76 : Kd.R k24 24 W6 (b + 2) (fun q => some q ≠ (Value.slice A5 res.length c5).ownBlock ∧ q < W6.heap.size) (.slice (some ad) n c7) pd := Kd.R_mono (Kd.R_step (Kd.R_bound HR7.out) (fun q hq hlt => e6 q hlt (by have := hq.2.1; omega))) (fun q hq => ⟨hq.1, by have := hq.2.2.1; omega⟩)
        have hk6 := (e6 kb hkl5 (by omega)).trans HK5.out
        have hbel6 : Below b w W6 := hI5.bel.grown hg6 (by omega) (fun q hq => by have := Option.some.inj hq; omega)
        have hrl := hI5.len
        have hel := HE.out
        have z0 : W6.cell? ⟨kb, 0, none⟩ = some (.int .i64 k.f0) := (cells_of_blk hk6 0).trans rfl
        have z1 : W6.cell? ⟨kb, 1, none⟩ = some (.int .i64 k.f1) := (cells_of_blk hk6 1).trans rfl
        have z2 : W6.cell? ⟨kb, 2, none⟩ = some (.int .i64 k.f2) := (cells_of_blk hk6 2).trans rfl
        clear hrun hrun' hlk y0 y1 y2 hg6 e6
        go_upto_region 10 with (first | ((with_reducible refine gate_builtin (b := .append) (xs := #[.tmp 37, .tmp 39]) rfl ?_); at_builtin; refine stop_ ?_))
        refine ⟨?_⟩
        refine Kd.R_append k24 (w0 := W6) (b + 2) rfl (.tmp 37) (.tmp 39) 27 24 (.agg #[.int .i64 0, .int .i64 0, .int .i64 0]) 24 rfl Try.underlying27 info24_ rfl (by decide) (by omega) (.slice A5 res.length c5) res k (rowK k) (fun q => some q ≠ some ad.block) (fun _ => False) rfl rfl (k24_mkM _ _ _ k) (fun _ h => h.elim) (fun q hq h => ?_) hr56 (Below.refl _ _) (by omega) (by omega) ?_
        · have h1 := Option.some.inj h
          have h2 := own_lt (own_of_R24 hr76) q (by rw [h1]; rfl)
          omega
        intro v51 w7 ho7 hb7 hg7 hat7
        obtain ⟨A51, c51, hv⟩ := Kd.R_slice ho7
        subst hv
        have hsz7 : W6.heap.size ≤ w7.heap.size := hg7.size
        have hr77 : Kd.R k24 24 w7 (b + 2) (fun q => some q ≠ (Value.slice A51 (res ++ [k]).length c51).ownBlock) (.slice (some ad) n c7) pd := Kd.R_mono (Kd.R_step hr76 (fun q hq hlt => hg7.block q hlt hq.1)) (fun q hq => by
          rcases hat7 with h | ⟨j, h, hj⟩
          · rw [h]; exact hq.1
          · rw [h]
            intro h2
            have := Option.some.inj h2
            omega)
        have hm7 : MapIs encK w7 (b + 1) (ones (res ++ [k])) := hm6.move (hg7.block _ hm6.lt (fun h => by
          have := own_base (own_of_R24 hr56) (b + 1) h.symm
          omega))
        have hkl6 := lt_of_blk hk6
        have hk7 := (hg7.block kb hkl6 (fun h => HNK.out h.symm)).trans hk6
        have hbel7 : Below b w w7 := hbel6.grown hg7 (by omega) (fun q hq => by
          have := own_base (own_of_R24 hr56) q hq
          omega)
        have hG7 := HG.out.below (by rw [HBW.out]; exact hbel7)
        obtain ⟨Ak9, ck9, m9, h1, h2, h3, h4, h5⟩ := hG7
        obtain ⟨A9, c9, e9, hc9, hr9⟩ := h5 k
        have hkl7 := lt_of_blk hk7
        have HS7 := Aside0.mk (show ∀ X, X.heap = w7.heap → (X.cell? ⟨g, 0, none⟩ = some (.map (some mb)) ∧ X.cell? ⟨kb, 0, none⟩ = some (.int .i64 k.f0) ∧ X.cell? ⟨kb, 1, none⟩ = some (.int .i64 k.f1) ∧ X.cell? ⟨kb, 2, none⟩ = some (.int .i64 k.f2) ∧ (Instr.lookup 51 (.map (some mb)) (.agg #[.int .i64 k.f0, .int .i64 k.f1, .int .i64 k.f2]) false).run Try.prog X = .ok (.slice A9 (nextK E k).length c9) X) from fun X hX => by
          have hk := (show X.heap[kb]? = w7.heap[kb]? by rw [hX]).trans hk7
          have hg := (show X.heap[g]? = w7.heap[g]? by rw [hX]).trans h1
          refine ⟨(cells_of_blk hg 0).trans rfl, (cells_of_blk hk 0).trans rfl, (cells_of_blk hk 1).trans rfl, (cells_of_blk hk 2).trans rfl, ?_⟩
          have h := (h4.move (show X.heap[mb]? = w7.heap[mb]? by rw [hX])).lookup keyLaw24 Try.underlying51 (zero27 X) k false
          rw [e9] at h
          exact h)
        clear h1 h2 h3 h4 h5 e9 z0 z1 z2
        have hnl := nextK_len E k
        have hn3 := HN.out
        go_upto_region 10 with (fail)
        refine start_ (n := 9) (S := fun X => X.cell? ⟨g, 0, none⟩ = some (.map (some mb)) ∧ X.cell? ⟨kb, 0, none⟩ = some (.int .i64 k.f0) ∧ X.cell? ⟨kb, 1, none⟩ = some (.int .i64 k.f1) ∧ X.cell? ⟨kb, 2, none⟩ = some (.int .i64 k.f2) ∧ (Instr.lookup 51 (.map (some mb)) (.agg #[.int .i64 k.f0, .int .i64 k.f1, .int .i64 k.f2]) false).run Try.prog X = .ok (.slice A9 (nextK E k).length c9) X) (ds := [7]) #[false, false, false, false, false, false, false, false, false] (by kernel_rfl) rfl rfl (HS7.out _ rfl) (fun hHeld => ?_)
        refine pure_ (i := 0) (N := some 41) (v := ?_) (a' := ?_) #[true, false, false, false, false, false, false, false, false] rfl rfl (by kernel_rfl) (fun _ _ _ h => h) (Or.inl ⟨by rfl, ?_⟩) ?_ ?_
        rotate_left
        · intro w'
          go_simp
          with_reducible rfl
        rotate_left
        · simp only [Act.put, List.setIfInBounds_toArray, List.set_cons_zero, List.set_cons_succ, i64_w, i32_w]
          rfl
        refine pure_ (i := 1) (N := some 42) (v := ?_) (a' := ?_) #[true, true, false, false, false, false, false, false, false] rfl rfl (by kernel_rfl) (fun _ _ _ h => h) (Or.inl ⟨by rfl, ?_⟩) ?_ ?_
        rotate_left
        · intro w'
          go_simp
          with_reducible rfl
        rotate_left
        · simp only [Act.put, List.setIfInBounds_toArray, List.set_cons_zero, List.set_cons_succ, i64_w, i32_w]
          rfl
        refine pure_ (i := 2) (N := some 43) (v := ?_) (a' := ?_) #[true, true, true, false, false, false, false, false, false] rfl rfl (by kernel_rfl) (fun _ _ _ h => h) (Or.inl ⟨by rfl, ?_⟩) ?_ ?_
        rotate_left
        · intro w'
          go_simp
          with_reducible rfl
        rotate_left
        · simp only [Act.put, List.setIfInBounds_toArray, List.set_cons_zero, List.set_cons_succ, i64_w, i32_w]
          rfl
        refine pure_ (i := 3) (N := some 44) (v := ?_) (a' := ?_) #[true, true, true, true, false, false, false, false, false] rfl rfl (by kernel_rfl) (fun _ _ _ h => h) (Or.inl ⟨by rfl, ?_⟩) ?_ ?_
        rotate_left
        · intro w'
          go_simp
          with_reducible rfl
        rotate_left
        · simp only [Act.put, List.setIfInBounds_toArray, List.set_cons_zero, List.set_cons_succ, i64_w, i32_w]
          rfl
        refine take_ (i := 4) (N := some 45) (v := ?_) (a' := ?_) #[true, true, true, true, true, false, false, false, false] rfl rfl (by kernel_rfl) (fun _ _ _ h => h) (Or.inl ⟨by rfl, ?_⟩) hHeld ?_ ?_
        rotate_left
        · rintro w' ⟨s0_, s1_, s2_, s3_, s4_⟩
          go_simp
          with_reducible rfl
        rotate_left
        · simp only [Act.put, List.setIfInBounds_toArray, List.set_cons_zero, List.set_cons_succ, i64_w, i32_w]
          rfl
        refine take_ (i := 5) (N := some 46) (v := ?_) (a' := ?_) #[true, true, true, true, true, true, false, false, false] rfl rfl (by kernel_rfl) (fun _ _ _ h => h) (Or.inl ⟨by rfl, ?_⟩) hHeld ?_ ?_
        rotate_left
        · rintro w' ⟨s0_, s1_, s2_, s3_, s4_⟩
          go_simp
          with_reducible rfl
        rotate_left
        · simp only [Act.put, List.setIfInBounds_toArray, List.set_cons_zero, List.set_cons_succ, i64_w, i32_w]
          rfl
        refine take_ (i := 6) (N := some 47) (v := ?_) (a' := ?_) #[true, true, true, true, true, true, true, false, false] rfl rfl (by kernel_rfl) (fun _ _ _ h => h) (Or.inl ⟨by rfl, ?_⟩) hHeld ?_ ?_
        rotate_left
        · rintro w' ⟨s0_, s1_, s2_, s3_, s4_⟩
          go_simp
          with_reducible rfl
        rotate_left
        · simp only [Act.put, List.setIfInBounds_toArray, List.set_cons_zero, List.set_cons_succ, i64_w, i32_w]
          rfl
        refine last_ (i := 7) (N := some 48) #[true, true, true, true, true, true, true, true, false] rfl rfl (by kernel_rfl) (by decide) (fun K hK => ?_)
        refine Kd.R_append_rows_step k24 (Rr := k24.K w7.drew) (w0 := w7.drew) (b + 2) (by rfl) (.tmp 41) (.tmp 47) 27 24 (.agg #[.int .i64 0, .int .i64 0, .int .i64 0]) 24 rfl Try.underlying27 info24_ rfl (by decide) (by omega) (.slice (some ad) n c7) pd (nextK E k) A9 _ _ (fun q => some q ≠ (Value.slice A51 (res ++ [k]).length c51).ownBlock) (fun _ => False) rfl rfl (Kd.R_below hr77 (below_drew1 (Below.refl _ _))) (Kd.C_drew hr9) (fun x cs h => K_M24 h) (fun _ h => h.elim) (fun q hq h => ?_) (Below.refl _ _) (by show b + 2 ≤ w7.heap.size; omega) (by omega) ?_
        · have h2 := own_lt (own_of_R24 ho7) q h.symm
          have h3 : w7.heap.size ≤ q := hq
          omega
        intro v71 w8 ho8 hb8 hg8 hat8
        obtain ⟨A71, c71, hv⟩ := Kd.R_slice ho8
        subst hv
        refine hK.out _ _ ?_
        clear hK K hHeld
        refine norm_ (a' := ?_) ?_ ?_
        rotate_left
        · show Act.put _ (some 48) _ = _
          simp only [Act.put, List.setIfInBounds_toArray, List.set_cons_zero, List.set_cons_succ, i64_w, i32_w]
          rfl
        refine pure_ (i := 8) (N := some 7) (v := ?_) (a' := ?_) #[true, true, true, true, true, true, true, true, true] rfl rfl (by kernel_rfl) (fun _ _ _ h => h) (Or.inl ⟨by rfl, ?_⟩) ?_ ?_
        rotate_left
        · intro w'
          go_simp
          with_reducible rfl
        rotate_left
        · simp only [Act.put, List.setIfInBounds_toArray, List.set_cons_zero, List.set_cons_succ, i64_w, i32_w]
          rfl
        refine done_ (by kernel_rfl) ?_
        have hg8' : w7.grownBy w8 (some ad.block) := ⟨hg8.os, hg8.tape, hg8.output, hg8.size, hg8.block⟩
        have hr58 : Kd.R k24 24 w8 (b + 2) (fun q => some q ≠ (Value.slice A71 (pd ++ nextK E k).length c71).ownBlock) (.slice A51 (res ++ [k]).length c51) (res ++ [k]) := Kd.R_mono (Kd.R_step (Kd.R_bound ho7) (fun q hq hlt => hg8'.block q hlt hq.1)) (fun q hq => by
          rcases hat8 with h | ⟨j, h, hj⟩
          · rw [h]; exact hq.1
          · rw [h]
            intro h2
            have h3 := Option.some.inj h2
            have h4 : w7.heap.size ≤ j := hj
            have := hq.2.2.1
            omega)
        have hm8 : MapIs encK w8 (b + 1) (ones (res ++ [k])) := hm7.move (hg8'.block _ hm7.lt (fun h => by
          have := own_base (own_of_R24 hr77) (b + 1) h.symm
          omega))
        have hbel8 : Below b w w8 := hbel7.grown hg8' (by omega) (fun q hq => by
          have := own_base (own_of_R24 hr77) q hq
          omega)
        have hdm := dfsM_take (nextK E) (keysK E) res pd k (srt_nodup ordK (keysK_srt E)) hk (keysK_nx E k)
        have hds := dfsM_skip (nextK E) (keysK E) res pd k
        have HFIN := Aside0.mk (show RchI E key b w w8 (.slice A51 (res ++ [k]).length c51) (.slice A71 (pd ++ nextK E k).length c71) (res ++ [k]) (pd ++ nextK E k) from
          ⟨HI5.out.dfs.take (nx_mem E) hk, hr58, ho8, hm8, hbel8, by have h1 := HI5.out.meas; omega⟩)
        clear hr58 hm8 hbel8 hr77 hm7 hk7 hbel7 HS7 ho7 ho8 hr56 hr76 hbel6
        go_wp2
        go_roundg (dfsM (nextK E) (keysK E) (res ++ [k]) (pd ++ nextK E k))
        case measure => omega
        case rel => exact ⟨res ++ [k], pd ++ nextK E k, A51, c51, A71, c71, by rw [List.length_append]; rfl, by rw [List.length_append, hn], rfl, HFIN⟩
set_option maxRecDepth 100000 in
set_option maxHeartbeats 16000000 in
theorem dependencies_calls (A0 : Option Addr) (c0 : Nat) (l0 : List S44) (key : S24) (w : World) (hr0 : Kd.C k44 w A0 l0.length l0) (hc0 : l0.length ≤ c0) :
    Calls Try.prog 9 #[.slice A0 l0.length c0, encK key] w fun e w' => ∃ v, e = .returned v ∧ Kd.R k24 24 w' w.heap.size (fun _ => True) v (reachR (edgesP false (l0.take 400)) key) ∧ Below w.heap.size w w' := by
  unfold encK
  have hE : (edgesP false (l0.take 400)).length ≤ 400 := by unfold edgesP; rw [List.length_map, List.length_take]; omega
  have HE := Aside0.mk hE
  have HR0 := Aside0.mk hr0
  have HC0 := Aside0.mk hc0
  clear hr0 hc0 hE
  go_enter Try.func9, Try.ntmps9
  go_upto_region 1 with (fail)
  obtain ⟨b, hb⟩ : ∃ b, w.heap.size = b := ⟨_, rfl⟩
  obtain ⟨W1, hW1⟩ : ∃ W1, w.alloc (.cells #[.int .i64 key.f0, .int .i64 key.f1, .int .i64 key.f2] 24) = W1 := ⟨_, rfl⟩
  have hb1 : Below w.heap.size w W1 := by rw [← hW1]; exact below_alloc (Below.refl _ _) _
  have hk1 : W1.heap[b]? = some (.cells #[.int .i64 key.f0, .int .i64 key.f1, .int .i64 key.f2] 24 (0, 0)) := by rw [← hb, ← hW1]; exact hb_new _ _
  have hz1 : W1.heap.size = b + 1 := by rw [← hb, ← hW1]; simp
  rw [hW1, hb]
  clear hW1
  have HS1 := Aside0.mk (show ∀ X, Below W1.heap.size W1 X → (X.cell? ⟨b, 0, none⟩ = some (.int .i64 key.f0) ∧ X.cell? ⟨b, 1, none⟩ = some (.int .i64 key.f1) ∧ X.cell? ⟨b, 2, none⟩ = some (.int .i64 key.f2)) from fun X hX => by
    have hk := (hX.block _ (lt_of_blk hk1)).trans hk1
    exact ⟨(cells_of_blk hk 0).trans rfl, (cells_of_blk hk 1).trans rfl, (cells_of_blk hk 2).trans rfl⟩)
  refine start_ (n := 5) (S := fun X => X.cell? ⟨b, 0, none⟩ = some (.int .i64 key.f0) ∧ X.cell? ⟨b, 1, none⟩ = some (.int .i64 key.f1) ∧ X.cell? ⟨b, 2, none⟩ = some (.int .i64 key.f2)) (ds := [3]) #[false, false, false, false, false] (by kernel_rfl) rfl rfl (HS1.out _ (below_drew1 (Below.refl _ _))) (fun hHeld => ?_)
  refine pure_ (i := 0) (N := some 5) (v := ?_) (a' := ?_) #[true, false, false, false, false] rfl rfl (by kernel_rfl) (fun _ _ _ h => h) (Or.inl ⟨by rfl, ?_⟩) ?_ ?_
  rotate_left
  · intro w'
    go_simp
    with_reducible rfl
  rotate_left
  · simp only [Act.put, List.setIfInBounds_toArray, List.set_cons_zero, List.set_cons_succ, i64_w, i32_w]
    rfl
  refine take_ (i := 2) (N := some 7) (v := ?_) (a' := ?_) #[true, false, true, false, false] rfl rfl (by kernel_rfl) (fun _ _ _ h => h) (Or.inl ⟨by rfl, ?_⟩) hHeld ?_ ?_
  rotate_left
  · rintro w' ⟨s0_, s1_, s2_⟩
    go_simp
    with_reducible rfl
  rotate_left
  · simp only [Act.put, List.setIfInBounds_toArray, List.set_cons_zero, List.set_cons_succ, i64_w, i32_w]
    rfl
  refine one_ (i := 1) (N := some 6) #[true, true, true, false, false] rfl rfl (by kernel_rfl) (by decide) (fun K hK => ?_)
  refine goes_ Try.func21 (by kernel_rfl) rfl #[.slice A0 l0.length c0, .bool false] (by rfl) rfl rfl (by (try simp only [List.map_toArray, List.map_cons, List.map_nil]); first | done | rfl) ?_
  refine (newGraph_calls A0 c0 l0 false W1.drew (Kd.C_drew (Kd.C_below HR0.out hb1)) HC0.out).mono ?_
  rintro e w2 ⟨g, mb, rfl, hg2, hb2⟩
  refine ⟨_, rfl, ?_⟩
  have hb12 : Below W1.heap.size W1 w2 := (below_drew1 (Below.refl _ _)).trans hb2
  refine hK.out _ _ (HS1.out _ hb12) (fun hHeld => ?_)
  clear hK K
  refine norm_ (a' := ?_) ?_ ?_
  rotate_left
  · show Act.put _ (some 6) _ = _
    simp only [Act.put, List.setIfInBounds_toArray, List.set_cons_zero, List.set_cons_succ, i64_w, i32_w]
    rfl
  refine last_ (i := 3) (N := some 8) #[true, true, true, true, false] rfl rfl (by kernel_rfl) (by decide) (fun K hK => ?_)
  refine goes_ Try.func22 (by kernel_rfl) rfl #[.pointer (some ⟨g, 0, none⟩), .agg #[.int .i64 key.f0, .int .i64 key.f1, .int .i64 key.f2]] (by rfl) rfl rfl (by (try simp only [List.map_toArray, List.map_cons, List.map_nil]); first | done | rfl) ?_
  refine (reachable_calls g mb _ key w2 hg2 HE.out).mono ?_
  rintro e w3 ⟨v3, rfl, hr3, hb3⟩
  refine ⟨_, rfl, ?_⟩
  refine hK.out _ _ ?_
  clear hK K hHeld
  refine norm_ (a' := ?_) ?_ ?_
  rotate_left
  · show Act.put _ (some 8) _ = _
    simp only [Act.put, List.setIfInBounds_toArray, List.set_cons_zero, List.set_cons_succ, i64_w, i32_w]
    rfl
  refine pure_ (i := 4) (N := some 4) (v := ?_) (a' := ?_) #[true, true, true, true, true] rfl rfl (by kernel_rfl) (fun _ _ _ h => h) (Or.inl ⟨by rfl, ?_⟩) ?_ ?_
  rotate_left
  · intro w'
    go_simp
    with_reducible rfl
  rotate_left
  · simp only [Act.put, List.setIfInBounds_toArray, List.set_cons_zero, List.set_cons_succ, i64_w, i32_w]
    rfl
  refine done_ (by kernel_rfl) ?_
  go_wp2
  go_ret
  have hs2 := hb12.size
  exact ⟨_, rfl, Kd.R_lower hr3 (by omega), hb1.trans ((hb12.mono (by omega)).trans (hb3.mono (by omega)))⟩
set_option maxRecDepth 100000 in
set_option maxHeartbeats 16000000 in
theorem dependents_calls (A0 : Option Addr) (c0 : Nat) (l0 : List S44) (key : S24) (w : World) (hr0 : Kd.C k44 w A0 l0.length l0) (hc0 : l0.length ≤ c0) :
    Calls Try.prog 11 #[.slice A0 l0.length c0, encK key] w fun e w' => ∃ v, e = .returned v ∧ Kd.R k24 24 w' w.heap.size (fun _ => True) v (reachR (edgesP true (l0.take 400)) key) ∧ Below w.heap.size w w' := by
  unfold encK
  have hE : (edgesP true (l0.take 400)).length ≤ 400 := by unfold edgesP; rw [List.length_map, List.length_take]; omega
  have HE := Aside0.mk hE
  have HR0 := Aside0.mk hr0
  have HC0 := Aside0.mk hc0
  clear hr0 hc0 hE
  go_enter Try.func11, Try.ntmps11
  go_upto_region 1 with (fail)
  obtain ⟨b, hb⟩ : ∃ b, w.heap.size = b := ⟨_, rfl⟩
  obtain ⟨W1, hW1⟩ : ∃ W1, w.alloc (.cells #[.int .i64 key.f0, .int .i64 key.f1, .int .i64 key.f2] 24) = W1 := ⟨_, rfl⟩
  have hb1 : Below w.heap.size w W1 := by rw [← hW1]; exact below_alloc (Below.refl _ _) _
  have hk1 : W1.heap[b]? = some (.cells #[.int .i64 key.f0, .int .i64 key.f1, .int .i64 key.f2] 24 (0, 0)) := by rw [← hb, ← hW1]; exact hb_new _ _
  have hz1 : W1.heap.size = b + 1 := by rw [← hb, ← hW1]; simp
  rw [hW1, hb]
  clear hW1
  have HS1 := Aside0.mk (show ∀ X, Below W1.heap.size W1 X → (X.cell? ⟨b, 0, none⟩ = some (.int .i64 key.f0) ∧ X.cell? ⟨b, 1, none⟩ = some (.int .i64 key.f1) ∧ X.cell? ⟨b, 2, none⟩ = some (.int .i64 key.f2)) from fun X hX => by
    have hk := (hX.block _ (lt_of_blk hk1)).trans hk1
    exact ⟨(cells_of_blk hk 0).trans rfl, (cells_of_blk hk 1).trans rfl, (cells_of_blk hk 2).trans rfl⟩)
  refine start_ (n := 5) (S := fun X => X.cell? ⟨b, 0, none⟩ = some (.int .i64 key.f0) ∧ X.cell? ⟨b, 1, none⟩ = some (.int .i64 key.f1) ∧ X.cell? ⟨b, 2, none⟩ = some (.int .i64 key.f2)) (ds := [3]) #[false, false, false, false, false] (by kernel_rfl) rfl rfl (HS1.out _ (below_drew1 (Below.refl _ _))) (fun hHeld => ?_)
  refine pure_ (i := 0) (N := some 5) (v := ?_) (a' := ?_) #[true, false, false, false, false] rfl rfl (by kernel_rfl) (fun _ _ _ h => h) (Or.inl ⟨by rfl, ?_⟩) ?_ ?_
  rotate_left
  · intro w'
    go_simp
    with_reducible rfl
  rotate_left
  · simp only [Act.put, List.setIfInBounds_toArray, List.set_cons_zero, List.set_cons_succ, i64_w, i32_w]
    rfl
  refine take_ (i := 2) (N := some 7) (v := ?_) (a' := ?_) #[true, false, true, false, false] rfl rfl (by kernel_rfl) (fun _ _ _ h => h) (Or.inl ⟨by rfl, ?_⟩) hHeld ?_ ?_
  rotate_left
  · rintro w' ⟨s0_, s1_, s2_⟩
    go_simp
    with_reducible rfl
  rotate_left
  · simp only [Act.put, List.setIfInBounds_toArray, List.set_cons_zero, List.set_cons_succ, i64_w, i32_w]
    rfl
  refine one_ (i := 1) (N := some 6) #[true, true, true, false, false] rfl rfl (by kernel_rfl) (by decide) (fun K hK => ?_)
  refine goes_ Try.func21 (by kernel_rfl) rfl #[.slice A0 l0.length c0, .bool true] (by rfl) rfl rfl (by (try simp only [List.map_toArray, List.map_cons, List.map_nil]); first | done | rfl) ?_
  refine (newGraph_calls A0 c0 l0 true W1.drew (Kd.C_drew (Kd.C_below HR0.out hb1)) HC0.out).mono ?_
  rintro e w2 ⟨g, mb, rfl, hg2, hb2⟩
  refine ⟨_, rfl, ?_⟩
  have hb12 : Below W1.heap.size W1 w2 := (below_drew1 (Below.refl _ _)).trans hb2
  refine hK.out _ _ (HS1.out _ hb12) (fun hHeld => ?_)
  clear hK K
  refine norm_ (a' := ?_) ?_ ?_
  rotate_left
  · show Act.put _ (some 6) _ = _
    simp only [Act.put, List.setIfInBounds_toArray, List.set_cons_zero, List.set_cons_succ, i64_w, i32_w]
    rfl
  refine last_ (i := 3) (N := some 8) #[true, true, true, true, false] rfl rfl (by kernel_rfl) (by decide) (fun K hK => ?_)
  refine goes_ Try.func22 (by kernel_rfl) rfl #[.pointer (some ⟨g, 0, none⟩), .agg #[.int .i64 key.f0, .int .i64 key.f1, .int .i64 key.f2]] (by rfl) rfl rfl (by (try simp only [List.map_toArray, List.map_cons, List.map_nil]); first | done | rfl) ?_
  refine (reachable_calls g mb _ key w2 hg2 HE.out).mono ?_
  rintro e w3 ⟨v3, rfl, hr3, hb3⟩
  refine ⟨_, rfl, ?_⟩
  refine hK.out _ _ ?_
  clear hK K hHeld
  refine norm_ (a' := ?_) ?_ ?_
  rotate_left
  · show Act.put _ (some 8) _ = _
    simp only [Act.put, List.setIfInBounds_toArray, List.set_cons_zero, List.set_cons_succ, i64_w, i32_w]
    rfl
  refine pure_ (i := 4) (N := some 4) (v := ?_) (a' := ?_) #[true, true, true, true, true] rfl rfl (by kernel_rfl) (fun _ _ _ h => h) (Or.inl ⟨by rfl, ?_⟩) ?_ ?_
  rotate_left
  · intro w'
    go_simp
    with_reducible rfl
  rotate_left
  · simp only [Act.put, List.setIfInBounds_toArray, List.set_cons_zero, List.set_cons_succ, i64_w, i32_w]
    rfl
  refine done_ (by kernel_rfl) ?_
  go_wp2
  go_ret
  have hs2 := hb12.size
  exact ⟨_, rfl, Kd.R_lower hr3 (by omega), hb1.trans ((hb12.mono (by omega)).trans (hb3.mono (by omega)))⟩
end
def depgraph_Dependencies.f (l0 : List S44) (a1_0 : Int) (a1_1 : Int) (a1_2 : Int) : Option (List S24) := some (reachR (edgesP false (l0.take 400)) ⟨a1_0, a1_1, a1_2⟩)
theorem depgraph_Dependencies.calls (A0 : Option Addr) (c0 : Nat) (l0 : List (S44)) (a1_0 : Int) (a1_1 : Int) (a1_2 : Int) (r : List (S24)) (w : World) (hr0 : Kd.C k44 w A0 l0.length l0) (hc0 : l0.length ≤ c0) (h : depgraph_Dependencies.f l0 a1_0 a1_1 a1_2 = some r) :
    Calls Try.prog 9 #[.slice A0 l0.length c0, .agg #[.int .i64 a1_0, .int .i64 a1_1, .int .i64 a1_2]] w fun e w' => ∃ v0_ : Value, e = .returned (v0_) ∧ Kd.R k24 24 w' w.heap.size (fun _ => True) v0_ r ∧ Below w.heap.size w w' := by
  obtain rfl := Option.some.inj h
  exact dependencies_calls A0 c0 l0 ⟨a1_0, a1_1, a1_2⟩ w hr0 hc0

end Go.Proofs.Ytofonbfpjfabbaa.QDepgraphReduction
