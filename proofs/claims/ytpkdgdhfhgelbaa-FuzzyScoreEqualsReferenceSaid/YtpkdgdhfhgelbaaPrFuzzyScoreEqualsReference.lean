/-
  The pure statement of FuzzyScoreEqualsReference: the rows of best suffix scores answer as the enumeration of all alignments.
-/
import Derived.Test.YtpkdgdhfhgelbaaSFuzzyScoreEqualsReference
import Derived.Test.YtpkdgdhfhgelbaaAid
namespace Go.Proofs.Ytpkdgdhfhgelbaa.Pr
open Go.Proofs.YtpkdgdhfhgelbaaW.PrintLast hiding readyB
open Go.RowKit Go.Proofs.YtpkdgdhfhgelbaaW.PrintWords Go.Proofs.YtpkdgdhfhgelbaaW.PrintMore Go.Proofs.Ytpkdgdhfhgelbaa.QFuzzyScoreEqualsReference Go.Proofs.Ytpkdgdhfhgelbaa.Aid
set_option linter.unusedVariables false
set_option linter.unusedSimpArgs false
/-- The alignments whose first place is i or behind it, d places to look at. -/
def alnK (nm : ByteArray) (b : Int) (F : Nat → List (List Int)) : Nat → Nat → List (List Int)
  | 0, _ => []
  | d + 1, i => (if foldB b (bt nm (i : Int)) = true then (F (i + 1)).map ((i : Int) :: ·) else []) ++ alnK nm b F d (i + 1)
def alnT (nm : ByteArray) : List Int → Nat → List (List Int)
  | [], _ => [[]]
  | b :: t, q => alnK nm b (alnT nm t) (nm.size - q) q
def scT (nm : ByteArray) : List Int → Nat → List Int → Int
  | [], _, _ => 0
  | _ :: _, _, [] => 0
  | b :: t, q, k :: ks => pointP b nm k.toNat + (if q ≥ 1 ∧ k = (q : Int) then 3 else 0) + scT nm t (k.toNat + 1) ks
theorem scT_pos (nm : ByteArray) : ∀ (t : List Int) (q : Nat) (l : List Int), 0 ≤ scT nm t q l
  | [], _, _ => Int.le_refl 0
  | _ :: _, _, [] => Int.le_refl 0
  | b :: t, q, k :: ks => by
    have h1 := scT_pos nm t (k.toNat + 1) ks
    have h2 := point_bound b nm k.toNat
    unfold scT
    split <;> omega
/-- The first greatest of a list. -/
def refL (f : List Int → Int) : List (List Int) → Int → List Int → Int × List Int
  | [], s, o => (s, o)
  | a :: t, s, o => if f a > s then refL f t (f a) a else refL f t s o
theorem refL_s (f : List Int → Int) (a : List Int) (t : List (List Int)) (s : Int) (o : List Int) : refL f (a :: t) s o = if f a > s then refL f t (f a) a else refL f t s o := rfl
theorem refL_ge (f : List Int → Int) : ∀ (L : List (List Int)) (s : Int) (o : List Int), s ≤ (refL f L s o).1
  | [], s, o => Int.le_refl s
  | a :: t, s, o => by
    unfold refL
    split
    · have := refL_ge f t (f a) a
      omega
    · exact refL_ge f t s o
theorem refL_base (f : List Int → Int) : ∀ (L : List (List Int)) (s s0 : Int) (o o0 : List Int), s0 ≤ s → refL f L s o = if (refL f L s0 o0).1 > s then refL f L s0 o0 else (s, o)
  | [], s, s0, o, o0, h => by
    unfold refL
    rw [if_neg (by show ¬ s0 > s; omega)]
  | a :: t, s, s0, o, o0, h => by
    unfold refL
    by_cases c1 : f a > s
    · rw [if_pos c1, if_pos (by omega : f a > s0)]
      have := refL_ge f t (f a) a
      rw [if_pos (by omega)]
    · rw [if_neg c1]
      by_cases c2 : f a > s0
      · rw [if_pos c2]
        exact refL_base f t s (f a) o a (by omega)
      · rw [if_neg c2]
        exact refL_base f t s s0 o o0 h
theorem refL_app (f : List Int → Int) (M : List (List Int)) : ∀ (L : List (List Int)) (s : Int) (o : List Int), refL f (L ++ M) s o = refL f M (refL f L s o).1 (refL f L s o).2
  | [], s, o => rfl
  | a :: t, s, o => by
    rw [List.cons_append, refL_s, refL_s]
    split
    · exact refL_app f M t (f a) a
    · exact refL_app f M t s o
theorem refL_map (f g : List Int → Int) (k c : Int) (hf : ∀ ks, f (k :: ks) = c + g ks) : ∀ (L : List (List Int)) (s : Int) (o : List Int), refL f (L.map (k :: ·)) (c + s) (k :: o) = (c + (refL g L s o).1, k :: (refL g L s o).2)
  | [], s, o => rfl
  | a :: t, s, o => by
    rw [List.map_cons]
    unfold refL
    rw [hf a]
    by_cases c1 : g a > s
    · rw [if_pos c1, if_pos (by omega)]
      exact refL_map f g k c hf t (g a) a
    · rw [if_neg c1, if_neg (by omega)]
      exact refL_map f g k c hf t s o
theorem refL_neg (g : List Int → Int) (hg : ∀ ks, 0 ≤ g ks) (L : List (List Int)) (o : List Int) (h : (refL g L (-1) o).1 = -1) : L = [] := by
  cases L with
  | nil => rfl
  | cons a t =>
    exfalso
    unfold refL at h
    have h1 := hg a
    rw [if_pos (by omega)] at h
    have := refL_ge g t (g a) a
    omega
theorem refL_cons (f g : List Int → Int) (k c : Int) (hf : ∀ ks, f (k :: ks) = c + g ks) (hg : ∀ ks, 0 ≤ g ks) (hc : 1 ≤ c) (L : List (List Int)) (s : Int) (o : List Int) (hs : -1 ≤ s) :
    refL f (L.map (k :: ·)) s o = if (refL g L (-1) []).1 ≠ -1 ∧ c + (refL g L (-1) []).1 > s then (c + (refL g L (-1) []).1, k :: (refL g L (-1) []).2) else (s, o) := by
  by_cases c0 : (refL g L (-1) []).1 = -1
  · rw [if_neg (fun h => h.1 c0), refL_neg g hg L [] c0]
    rfl
  · have hA := refL_map f g k c hf L (-1) []
    have hB := refL_base f (L.map (k :: ·)) (c + -1) (-1) [k] [] (by omega)
    have hr := refL_ge g L (-1) []
    rw [hA] at hB
    have hX : refL f (L.map (k :: ·)) (-1) [] = (c + (refL g L (-1) []).1, k :: (refL g L (-1) []).2) := by
      split at hB
      · exact hB.symm
      · have := congrArg Prod.fst hB
        dsimp only at this
        omega
    rw [refL_base f (L.map (k :: ·)) s (-1) o [] hs, hX]
    by_cases c1 : c + (refL g L (-1) []).1 > s
    · rw [if_pos c1, if_pos ⟨c0, c1⟩]
    · rw [if_neg c1, if_neg (fun h => c1 h.2)]
/-- The best score of a suffix and its places. -/
def bp (nm : ByteArray) : List Int → Nat → Int × List Int
  | [], _ => (0, [])
  | b :: t, q => if (bestP (sufRow nm (b :: t)) q).1 = -1 then (-1, []) else ((bestP (sufRow nm (b :: t)) q).1, (bestP (sufRow nm (b :: t)) q).2 :: (bp nm t ((bestP (sufRow nm (b :: t)) q).2 + 1).toNat).2)
theorem rest_bp (nm : ByteArray) (t : List Int) (o : Nat) : restP t (sufRow nm t) o = (bp nm t (o + 1)).1 := by
  cases t with
  | nil => rfl
  | cons b t =>
    unfold restP bp
    rw [if_neg (by simp)]
    split
    · assumption
    · rfl
def Rel (nm : ByteArray) (t : List Int) (s o : Int) (l : List Int) : Prop := (s = -1 ∧ l = []) ∨ (0 ≤ s ∧ 0 ≤ o ∧ (bp nm t (o + 1).toNat).1 ≠ -1 ∧ l = o :: (bp nm t (o + 1).toNat).2)
theorem inner (nm : ByteArray) (b : Int) (t : List Int) (q : Nat) (ih : ∀ q, refL (scT nm t q) (alnT nm t q) (-1) [] = bp nm t q) :
    ∀ (d i : Nat) (s o : Int) (l : List Int), i + d = nm.size → Rel nm t s o l →
      (refL (scT nm (b :: t) q) (alnK nm b (alnT nm t) d i) s l).1 = (bestL ((q : Int) - 1) ((sufRow nm (b :: t)).drop i) (i : Int) s o).1 ∧
      Rel nm t (bestL ((q : Int) - 1) ((sufRow nm (b :: t)).drop i) (i : Int) s o).1 (bestL ((q : Int) - 1) ((sufRow nm (b :: t)).drop i) (i : Int) s o).2 (refL (scT nm (b :: t) q) (alnK nm b (alnT nm t) d i) s l).2
  | 0, i, s, o, l, hd, hR => by
    rw [List.drop_eq_nil_of_le (by rw [sufRow_len]; omega)]
    exact ⟨rfl, hR⟩
  | d + 1, i, s, o, l, hd, hR => by
    have hi : i < (sufRow nm (b :: t)).length := by rw [sufRow_len]; omega
    have hx : (sufRow nm (b :: t))[i]'hi = cellP nm b t (sufRow nm t) i := by
      simp only [sufRow]
      rw [List.getElem_map, List.getElem_range]
    rw [List.drop_eq_getElem_cons hi, hx]
    have hs : -1 ≤ s := by
      rcases hR with h | h
      · omega
      · omega
    have hr := refL_ge (scT nm t (i + 1)) (alnT nm t (i + 1)) (-1) []
    rw [ih] at hr
    have hpt := point_bound b nm i
    have hsame : ∀ l', refL (scT nm (b :: t) q) (if foldB b (bt nm (i : Int)) = true then (alnT nm t (i + 1)).map ((i : Int) :: ·) else []) s l' =
        if (foldB b (bt nm (i : Int)) = true ∧ (bp nm t (i + 1)).1 ≠ -1) ∧ (pointP b nm i + (if q ≥ 1 ∧ (i : Int) = (q : Int) then 3 else 0)) + (bp nm t (i + 1)).1 > s then ((pointP b nm i + (if q ≥ 1 ∧ (i : Int) = (q : Int) then 3 else 0)) + (bp nm t (i + 1)).1, (i : Int) :: (bp nm t (i + 1)).2) else (s, l') := by
      intro l'
      by_cases cf : foldB b (bt nm (i : Int)) = true
      · rw [if_pos cf, refL_cons (scT nm (b :: t) q) (scT nm t (i + 1)) (i : Int) (pointP b nm i + (if q ≥ 1 ∧ (i : Int) = (q : Int) then 3 else 0)) (fun ks => rfl) (scT_pos nm t (i + 1)) (by split <;> omega) (alnT nm t (i + 1)) s l' hs, ih]
        simp only [cf, true_and]
      · rw [if_neg cf, if_neg (fun h => cf h.1.1)]
        rfl
    have hcell : cellP nm b t (sufRow nm t) i = if foldB b (bt nm (i : Int)) = true ∧ (bp nm t (i + 1)).1 ≠ -1 then pointP b nm i + (bp nm t (i + 1)).1 else -1 := by
      unfold cellP
      rw [rest_bp]
    simp only [alnK]
    rw [refL_app, hsame l]
    have hN : bestL ((q : Int) - 1) (cellP nm b t (sufRow nm t) i :: (sufRow nm (b :: t)).drop (i + 1)) (i : Int) s o =
        if (foldB b (bt nm (i : Int)) = true ∧ (bp nm t (i + 1)).1 ≠ -1) ∧ (pointP b nm i + (if q ≥ 1 ∧ (i : Int) = (q : Int) then 3 else 0)) + (bp nm t (i + 1)).1 > s then bestL ((q : Int) - 1) ((sufRow nm (b :: t)).drop (i + 1)) ((i : Int) + 1) ((pointP b nm i + (if q ≥ 1 ∧ (i : Int) = (q : Int) then 3 else 0)) + (bp nm t (i + 1)).1) (i : Int)
          else bestL ((q : Int) - 1) ((sufRow nm (b :: t)).drop (i + 1)) ((i : Int) + 1) s o := by
      rw [hcell]
      by_cases c1 : foldB b (bt nm (i : Int)) = true ∧ (bp nm t (i + 1)).1 ≠ -1
      · rw [if_pos c1]
        have e : (if pointP b nm i + (bp nm t (i + 1)).1 ≠ -1 ∧ ((q : Int) - 1) ≥ 0 ∧ (i : Int) = ((q : Int) - 1) + 1 then pointP b nm i + (bp nm t (i + 1)).1 + 3 else pointP b nm i + (bp nm t (i + 1)).1) =
            (pointP b nm i + (if q ≥ 1 ∧ (i : Int) = (q : Int) then 3 else 0)) + (bp nm t (i + 1)).1 := by
          by_cases c2 : q ≥ 1 ∧ (i : Int) = (q : Int)
          · rw [if_pos c2, if_pos ⟨by omega, by omega, by omega⟩]; omega
          · rw [if_neg c2, if_neg (fun h => c2 ⟨by omega, by omega⟩)]; omega
        simp only [bestL]
        rw [e]
        generalize (pointP b nm i + (if q ≥ 1 ∧ (i : Int) = (q : Int) then 3 else 0)) + (bp nm t (i + 1)).1 = V
        by_cases c3 : V > s
        · rw [if_pos c3, if_pos ⟨c1, c3⟩]
        · rw [if_neg c3, if_neg (fun h => c3 h.2)]
      · rw [if_neg c1, if_neg (fun h => c1 h.1)]
        simp only [bestL]
        rw [if_neg (by split <;> omega)]
    rw [hN]
    have e1 : ((i : Int) + 1) = ((i + 1 : Nat) : Int) := by omega
    by_cases c : (foldB b (bt nm (i : Int)) = true ∧ (bp nm t (i + 1)).1 ≠ -1) ∧ (pointP b nm i + (if q ≥ 1 ∧ (i : Int) = (q : Int) then 3 else 0)) + (bp nm t (i + 1)).1 > s
    · rw [if_pos c, if_pos c, e1]
      refine inner nm b t q ih d (i + 1) _ _ _ (by omega) (.inr ⟨?_, by omega, ?_, ?_⟩)
      · have := c.1.2
        split <;> omega
      · have e2 : ((i : Int) + 1).toNat = i + 1 := by omega
        rw [e2]; exact c.1.2
      · have e2 : ((i : Int) + 1).toNat = i + 1 := by omega
        rw [e2]
    · rw [if_neg c, if_neg c, e1]
      exact inner nm b t q ih d (i + 1) _ _ _ (by omega) hR
theorem best_empty (row : List Int) (q : Nat) (h : row.length ≤ q) : bestP row q = (-1, -1) := by
  unfold bestP
  rw [List.drop_eq_nil_of_le h]
  rfl
def rowsT (nm : ByteArray) : List Int → List (List Int)
  | [] => []
  | b :: t => sufRow nm (b :: t) :: rowsT nm t
theorem best_rel (nm : ByteArray) (b : Int) (t : List Int) (q : Nat) (ih : ∀ q, refL (scT nm t q) (alnT nm t q) (-1) [] = bp nm t q) :
    (refL (scT nm (b :: t) q) (alnT nm (b :: t) q) (-1) []).1 = (bestP (sufRow nm (b :: t)) q).1 ∧
    Rel nm t (bestP (sufRow nm (b :: t)) q).1 (bestP (sufRow nm (b :: t)) q).2 (refL (scT nm (b :: t) q) (alnT nm (b :: t) q) (-1) []).2 := by
  by_cases hq : q ≤ nm.size
  · exact inner nm b t q ih (nm.size - q) q (-1) (-1) [] (by omega) (.inl ⟨rfl, rfl⟩)
  · rw [best_empty _ _ (by rw [sufRow_len]; omega)]
    have e : alnT nm (b :: t) q = [] := by
      unfold alnT
      rw [(by omega : nm.size - q = 0)]
      rfl
    rw [e]
    exact ⟨rfl, .inl ⟨rfl, rfl⟩⟩
theorem bp_ref (nm : ByteArray) : ∀ (t : List Int) (q : Nat), refL (scT nm t q) (alnT nm t q) (-1) [] = bp nm t q
  | [], q => rfl
  | b :: t, q => by
    obtain ⟨h1, h2⟩ := best_rel nm b t q (bp_ref nm t)
    refine Prod.ext ?_ ?_
    · rw [h1]
      unfold bp
      split
      · assumption
      · rfl
    · unfold bp
      rcases h2 with ⟨h3, h4⟩ | ⟨h3, h4, h5, h6⟩
      · rw [if_pos h3, h4]
      · rw [if_neg (by omega), h6]
theorem score_bp (nm : ByteArray) : ∀ (t : List Int) (q : Nat), scoreL (rowsT nm t) q = if (bp nm t q).1 = -1 then none else some (bp nm t q).2
  | [], q => rfl
  | b :: t, q => by
    obtain ⟨h1, h2⟩ := best_rel nm b t q (bp_ref nm t)
    unfold rowsT scoreL bp
    rcases h2 with ⟨h3, h4⟩ | ⟨h3, h4, h5, h6⟩
    · rw [if_pos h3, if_pos h3]
      rfl
    · have h3' : ¬ (bestP (sufRow nm (b :: t)) q).1 = -1 := by omega
      rw [if_neg h3', if_neg h3', score_bp nm t, if_neg h5, if_neg h3']
      rfl
theorem rowsT_eq (nm : ByteArray) : ∀ (t : List Int), rowsT nm t = (List.range t.length).map (fun j => sufRow nm (t.drop j))
  | [] => rfl
  | b :: t => by
    rw [List.length_cons, List.range_succ_eq_map, List.map_cons, List.map_map]
    unfold rowsT
    rw [rowsT_eq nm t]
    rfl
theorem score_is (p nm : ByteArray) (hp : p.size ≤ 30) (hn : nm.size ≤ 30) : scoreP p nm = if (bp nm (bytesP p) 0).1 = -1 then (0, [], false) else ((bp nm (bytesP p) 0).1, (bp nm (bytesP p) 0).2, true) := by
  have e : rowsP p nm = rowsT nm (bytesP p) := by
    rw [rowsT_eq, bytes_len]
    rfl
  unfold scoreP
  rw [if_neg (by omega), e, score_bp]
  by_cases c : (bp nm (bytesP p) 0).1 = -1
  · rw [if_pos c, if_pos c]
    rfl
  · rw [if_neg c, if_neg c]
    show (tot0 (rowsT nm (bytesP p)), [] ++ (bp nm (bytesP p) 0).2, true) = _
    rw [List.nil_append]
    have e2 : tot0 (rowsT nm (bytesP p)) = (bp nm (bytesP p) 0).1 := by
      cases hB : bytesP p with
      | nil => rfl
      | cons b t =>
        rw [hB] at c
        unfold bp at c ⊢
        split at c
        · exact absurd rfl c
        · rename_i c2
          rw [if_neg c2]
          rfl
    rw [e2]
theorem bp_len (nm : ByteArray) : ∀ (t : List Int) (q : Nat), (bp nm t q).2.length ≤ t.length
  | [], q => Nat.le_refl 0
  | b :: t, q => by
    unfold bp
    split
    · exact Nat.zero_le _
    · rw [List.length_cons, List.length_cons]
      have := bp_len nm t ((bestP (sufRow nm (b :: t)) q).2 + 1).toNat
      omega
theorem foldByte_eq (a : Int) (h : 0 ≤ a ∧ a ≤ 255) : glossatorref4_foldByte.f a = some (lowP a) := by
  unfold glossatorref4_foldByte.f lowP
  by_cases c1 : a ≥ 65
  · rw [if_pos c1]
    by_cases c2 : a ≤ 90
    · rw [if_pos c2, if_pos ⟨c1, c2⟩]
      congr 1
      omega
    · rw [if_neg c2, if_neg (fun h => c2 h.2)]
  · rw [if_neg c1, if_neg (fun h => c1 h.1)]
theorem alnK_ev (p nm : ByteArray) (hp : p.size ≤ 6) (hn : nm.size ≤ 14) (pre : List Int) (hpre : pre.length < p.size) (b : Int) (hb : bt p (pre.length : Int) = b) (F : Nat → List (List Int)) (C : Nat) (hC : ∀ i, (F i).length ≤ C)
    (hF : ∀ i, i < nm.size → Ev (fun k => glossatorref4_FuzzyAlignments.f k p nm (pre ++ [(i : Int)])) ((F (i + 1)).map ((pre ++ [(i : Int)]) ++ ·))) :
    ∀ (d i : Nat) (out : List (List Int)), i + d = nm.size → out.length + d * C ≤ 1000000000 → Ev (fun k => glossatorref4_FuzzyAlignments.l0 k p nm pre out (i : Int)) (out ++ (alnK nm b F d i).map (pre ++ ·))
  | 0, i, out, hd, hl => by
    refine Ev.some' (fun k => ?_)
    simp only [glossatorref4_FuzzyAlignments.l0, alnK]
    rw [if_neg (by omega), List.map_nil, List.append_nil]
  | d + 1, i, out, hd, hl => by
    have hw : wrap64 ((i : Int) + 1) = ((i + 1 : Nat) : Int) := by rw [wrap_id (by omega) (by omega)]; omega
    have hl2 : out.length + C + d * C ≤ 1000000000 := by rw [Nat.succ_mul] at hl; omega
    have h0 := bt_bound p (pre.length : Int)
    have h1 := bt_bound nm (i : Int)
    by_cases c : foldB b (bt nm (i : Int)) = true
    · have hc : lowP (bt p (pre.length : Int)) = lowP (bt nm (i : Int)) := by
        rw [hb]
        exact eq_of_beq c
      have hlen : ((F (i + 1)).map ((pre ++ [(i : Int)]) ++ ·)).length ≤ C := by rw [List.length_map]; exact hC _
      have hrec := alnK_ev p nm hp hn pre hpre b hb F C hC hF d (i + 1) (out ++ (F (i + 1)).map ((pre ++ [(i : Int)]) ++ ·)) (by omega) (by rw [List.length_append]; omega)
      have ev := Ev.bind (f := fun k (t : List (List Int)) => if out.length + t.length < 5864062014805 then glossatorref4_FuzzyAlignments.l0 k p nm pre (out ++ t) (wrap64 ((i : Int) + 1)) else none) (hF i (by omega)) (Ev.same hrec (fun k => by
        show (if _ then _ else _) = _
        rw [if_pos (by omega), hw]))
      have er : out ++ (alnK nm b F (d + 1) i).map (pre ++ ·) = (out ++ (F (i + 1)).map ((pre ++ [(i : Int)]) ++ ·)) ++ (alnK nm b F d (i + 1)).map (pre ++ ·) := by
        simp only [alnK]
        rw [if_pos c, List.map_append, List.map_map, List.append_assoc]
        congr 2
        refine List.map_congr_left (fun l _ => ?_)
        show pre ++ ((i : Int) :: l) = (pre ++ [(i : Int)]) ++ l
        rw [List.append_assoc]
        rfl
      rw [er]
      refine Ev.stepK ev (fun k => ?_)
      simp only [glossatorref4_FuzzyAlignments.l0]
      rw [if_pos (by omega), if_pos (by omega), if_pos (by omega), foldByte_eq _ h0, foldByte_eq _ h1]
      simp only [Option.bind_some, List.nil_append]
      rw [if_pos (by omega), if_pos hc, if_pos (by show 0 + _ < _; omega), if_pos (by omega)]
    · have hc : ¬ lowP (bt p (pre.length : Int)) = lowP (bt nm (i : Int)) := by
        rw [hb]
        intro h
        exact c (by unfold foldB; rw [h]; exact beq_self_eq_true _)
      have hrec := alnK_ev p nm hp hn pre hpre b hb F C hC hF d (i + 1) out (by omega) (by omega)
      have er : alnK nm b F (d + 1) i = alnK nm b F d (i + 1) := by
        simp only [alnK]
        rw [if_neg c]
        rfl
      rw [er]
      refine Ev.stepK hrec (fun k => ?_)
      simp only [glossatorref4_FuzzyAlignments.l0]
      rw [if_pos (by omega), if_pos (by omega), if_pos (by omega), foldByte_eq _ h0, foldByte_eq _ h1]
      simp only [Option.bind_some]
      rw [if_pos (by omega), if_neg hc, hw]
theorem alnK_len (nm : ByteArray) (b : Int) (F : Nat → List (List Int)) (C : Nat) (hC : ∀ i, (F i).length ≤ C) : ∀ (d i : Nat), (alnK nm b F d i).length ≤ d * C
  | 0, i => Nat.zero_le _
  | d + 1, i => by
    have h1 := alnK_len nm b F C hC d (i + 1)
    have h2 := hC (i + 1)
    simp only [alnK]
    rw [List.length_append, Nat.succ_mul]
    split
    · rw [List.length_map]; omega
    · show 0 + _ ≤ _; omega
theorem alnT_len (nm : ByteArray) (hn : nm.size ≤ 14) : ∀ (t : List Int) (q : Nat), (alnT nm t q).length ≤ 14 ^ t.length
  | [], q => Nat.le_refl 1
  | b :: t, q => by
    have h1 := alnK_len nm b (alnT nm t) _ (alnT_len nm hn t) (nm.size - q) q
    have h2 : (nm.size - q) * 14 ^ t.length ≤ 14 * 14 ^ t.length := Nat.mul_le_mul_right _ (by omega)
    rw [List.length_cons, Nat.pow_succ]
    unfold alnT
    omega
theorem pow_bound (n : Nat) (h : n ≤ 6) : 14 * 14 ^ n ≤ 1000000000 := by
  have h1 : 14 ^ n ≤ 14 ^ 6 := Nat.pow_le_pow_right (by omega) h
  have h2 : (14 : Nat) ^ 6 = 7529536 := by decide
  omega
theorem bytes_get (p : ByteArray) (i : Nat) (h : i < (bytesP p).length) : (bytesP p)[i]'h = bt p (i : Int) := by
  simp only [bytesP, List.getElem_map, List.getElem_range]
def LastQ (pre : List Int) (q : Nat) : Prop := (pre = [] ∧ q = 0) ∨ ∃ (pre' : List Int) (a : Nat), pre = pre' ++ [(a : Int)] ∧ q = a + 1
theorem aln_ev (p nm : ByteArray) (hp : p.size ≤ 6) (hn : nm.size ≤ 14) : ∀ (t pre : List Int) (q : Nat), (bytesP p).drop pre.length = t → pre.length ≤ p.size → LastQ pre q → q ≤ nm.size →
    Ev (fun k => glossatorref4_FuzzyAlignments.f k p nm pre) ((alnT nm t q).map (pre ++ ·))
  | [], pre, q, ht, hl, hq, hqn => by
    have h1 : pre.length = p.size := by
      have : (bytesP p).length ≤ pre.length := by simpa using ht
      rw [bytes_len] at this
      omega
    refine Ev.some' (fun k => ?_)
    simp only [glossatorref4_FuzzyAlignments.f]
    rw [if_pos (by omega)]
    simp only [Option.bind_some, List.nil_append]
    rw [if_pos (by show 0 + _ < _; omega)]
    show some [pre] = some [pre ++ []]
    rw [List.append_nil]
  | b :: t, pre, q, ht, hl, hq, hqn => by
    have hl1 : pre.length < (bytesP p).length := by
      rcases Nat.lt_or_ge pre.length (bytesP p).length with h1 | h1
      · exact h1
      · rw [List.drop_eq_nil_of_le h1] at ht; cases ht
    have ht1 := ht
    rw [List.drop_eq_getElem_cons hl1] at ht1
    injection ht1 with hb ht2
    have hb2 : bt p (pre.length : Int) = b := by
      rw [← hb]
      exact (bytes_get p _ _).symm
    rw [bytes_len] at hl1
    have htl : t.length ≤ 6 := by
      rw [← ht2, List.length_drop, bytes_len]; omega
    have hpb := pow_bound t.length htl
    have hF : ∀ i, i < nm.size → Ev (fun k => glossatorref4_FuzzyAlignments.f k p nm (pre ++ [(i : Int)])) ((alnT nm t (i + 1)).map ((pre ++ [(i : Int)]) ++ ·)) := fun i hi =>
      aln_ev p nm hp hn t (pre ++ [(i : Int)]) (i + 1) (by rw [List.length_append]; exact ht2) (by rw [List.length_append]; show _ + 1 ≤ _; omega) (.inr ⟨pre, i, rfl, rfl⟩) (by omega)
    have hdC : (nm.size - q) * 14 ^ t.length ≤ 14 * 14 ^ t.length := Nat.mul_le_mul_right _ (by omega)
    have hin := alnK_ev p nm hp hn pre hl1 b hb2 (alnT nm t) _ (alnT_len nm hn t) hF (nm.size - q) q [] (by omega) (by show 0 + _ ≤ _; omega)
    have hj : Ev (fun k => glossatorref4_FuzzyAlignments.j0 k p nm pre (q : Int)) ((alnT nm (b :: t) q).map (pre ++ ·)) := by
      refine Ev.stepK hin (fun k => ?_)
      simp only [glossatorref4_FuzzyAlignments.j0]
    refine Ev.stepK hj (fun k => ?_)
    simp only [glossatorref4_FuzzyAlignments.f]
    rw [if_neg (by omega)]
    rcases hq with ⟨h1, h2⟩ | ⟨pre', a, h1, h2⟩
    · subst h1; subst h2
      rfl
    · have hlp : pre.length = pre'.length + 1 := by rw [h1, List.length_append]; rfl
      have hw : wrap64 ((pre.length : Int) - 1) = (pre'.length : Int) := by rw [wrap_id (by omega) (by omega)]; omega
      have hr : rd pre (pre'.length : Int) = (a : Int) := by
        unfold rd
        rw [h1, Int.toNat_natCast]
        simp
      rw [if_pos (by omega), hw, if_pos (by omega), if_pos (by omega), hr, wrap_id (by omega) (by omega), h2]
      rfl
def okA (nm : ByteArray) : List Int → Nat → List Int → Prop
  | [], _, l => l = []
  | _ :: t, q, l => ∃ (k : Nat) (ks : List Int), l = (k : Int) :: ks ∧ q ≤ k ∧ k < nm.size ∧ okA nm t (k + 1) ks
theorem alnK_ok (nm : ByteArray) (b : Int) (F : Nat → List (List Int)) (G : Nat → List Int → Prop) (hG : ∀ j l, l ∈ F j → G j l) : ∀ (d i : Nat) (l : List Int), i + d ≤ nm.size → l ∈ alnK nm b F d i →
    ∃ (k : Nat) (ks : List Int), l = (k : Int) :: ks ∧ i ≤ k ∧ k < nm.size ∧ G (k + 1) ks
  | 0, i, l, hd, h => by cases h
  | d + 1, i, l, hd, h => by
    simp only [alnK] at h
    rcases List.mem_append.1 h with h1 | h1
    · by_cases c : foldB b (bt nm (i : Int)) = true
      · rw [if_pos c] at h1
        obtain ⟨ks, h2, h3⟩ := List.mem_map.1 h1
        exact ⟨i, ks, h3.symm, by omega, by omega, hG _ _ h2⟩
      · rw [if_neg c] at h1
        cases h1
    · obtain ⟨k, ks, h2, h3, h4, h5⟩ := alnK_ok nm b F G hG d (i + 1) l (by omega) h1
      exact ⟨k, ks, h2, by omega, h4, h5⟩
theorem alnT_ok (nm : ByteArray) : ∀ (t : List Int) (q : Nat) (l : List Int), l ∈ alnT nm t q → okA nm t q l
  | [], q, l, h => by
    simp only [alnT, List.mem_singleton] at h
    exact h
  | b :: t, q, l, h => by
    by_cases hq : q ≤ nm.size
    · exact alnK_ok nm b (alnT nm t) (okA nm t) (alnT_ok nm t) (nm.size - q) q l (by omega) h
    · unfold alnT at h
      rw [(by omega : nm.size - q = 0)] at h
      cases h
theorem rd_mid (pre : List Int) (a : Int) (t : List Int) : rd (pre ++ a :: t) (pre.length : Int) = a := by
  unfold rd
  rw [Int.toNat_natCast]
  simp
theorem score_ev (p nm : ByteArray) (hp : p.size ≤ 6) (hn : nm.size ≤ 14) : ∀ (t pre rest : List Int) (q : Nat) (s : Int), (bytesP p).drop pre.length = t → okA nm t q rest → LastQ pre q → q ≤ nm.size → 0 ≤ s → s ≤ 1000000 - 100 * (t.length : Int) →
    Ev (fun k => glossatorref4_FuzzyAlignmentScore.l0 k p nm (pre ++ rest) s (pre.length : Int)) (s + scT nm t q rest) := by
  intro t
  induction t with
  | nil =>
    intro pre rest q s ht ho hq hqn hs0 hs1
    have e : rest = [] := ho
    subst e
    refine Ev.some' (fun k => ?_)
    simp only [glossatorref4_FuzzyAlignmentScore.l0, scT]
    rw [List.append_nil, if_neg (by omega), Int.add_zero]
  | cons b t ih =>
    intro pre rest q s ht ho hq hqn hs0 hs1
    obtain ⟨k, ks, hr, hqk, hkn, hok⟩ := ho
    subst hr
    have hl1 : pre.length < (bytesP p).length := by
      rcases Nat.lt_or_ge pre.length (bytesP p).length with h1 | h1
      · exact h1
      · rw [List.drop_eq_nil_of_le h1] at ht; cases ht
    have ht1 := ht
    rw [List.drop_eq_getElem_cons hl1] at ht1
    injection ht1 with hb ht2
    have hb2 : bt p (pre.length : Int) = b := by
      rw [← hb]
      exact (bytes_get p _ _).symm
    rw [bytes_len] at hl1
    rw [List.length_cons] at hs1
    have hpt := point_bound b nm k
    have hbo : (0 : Int) ≤ (if q ≥ 1 ∧ (k : Int) = (q : Int) then 3 else 0) ∧ (if q ≥ 1 ∧ (k : Int) = (q : Int) then 3 else 0) ≤ (3 : Int) := by split <;> omega
    have hrec := ih (pre ++ [(k : Int)]) ks (k + 1) (s + pointP b nm k + (if q ≥ 1 ∧ (k : Int) = (q : Int) then 3 else 0)) (by rw [List.length_append]; exact ht2) hok (.inr ⟨pre, k, rfl, rfl⟩) (by omega) (by omega) (by omega)
    have hlx : (pre ++ (k : Int) :: ks).length = pre.length + 1 + ks.length := by rw [List.length_append, List.length_cons]; omega
    have hx : (pre ++ [(k : Int)]) ++ ks = pre ++ (k : Int) :: ks := by rw [List.append_assoc]; rfl
    have hx1 : (((pre ++ [(k : Int)]).length : Nat) : Int) = wrap64 ((pre.length : Int) + 1) := by
      rw [wrap_id (by omega) (by omega), List.length_append]
      rfl
    rw [hx, hx1] at hrec
    have htot : s + pointP b nm k + (if q ≥ 1 ∧ (k : Int) = (q : Int) then 3 else 0) + scT nm t (k + 1) ks = s + scT nm (b :: t) q ((k : Int) :: ks) := by
      simp only [scT]
      rw [Int.toNat_natCast]
      omega
    rw [htot] at hrec
    generalize hR : s + scT nm (b :: t) q ((k : Int) :: ks) = R at hrec ⊢
    have hrk : rd (pre ++ (k : Int) :: ks) (pre.length : Int) = (k : Int) := rd_mid pre _ ks
    generalize hX : pre ++ (k : Int) :: ks = X at hrec hlx hrk hx ⊢
    -- the step behind the points: the neighbour's bonus
    have hbon : ∀ s2 : Int, s2 + (if q ≥ 1 ∧ (k : Int) = (q : Int) then 3 else 0) = s + pointP b nm k + (if q ≥ 1 ∧ (k : Int) = (q : Int) then 3 else 0) → 0 ≤ s2 → s2 ≤ 1000000 →
        Ev (fun k1 => if (pre.length : Int) > 0 then (if 0 ≤ (wrap64 ((pre.length : Int) - 1)) then (if (wrap64 ((pre.length : Int) - 1)) < (X.length : Int) then (if (k : Int) = (wrap64 ((rd X (wrap64 ((pre.length : Int) - 1))) + 1)) then (glossatorref4_FuzzyAlignmentScore.l0 k1 p nm X (wrap64 (s2 + 3)) (wrap64 ((pre.length : Int) + 1))) else (glossatorref4_FuzzyAlignmentScore.l0 k1 p nm X s2 (wrap64 ((pre.length : Int) + 1)))) else (none)) else (none)) else (glossatorref4_FuzzyAlignmentScore.l0 k1 p nm X s2 (wrap64 ((pre.length : Int) + 1)))) R := by
      intro s2 h2 h20 h21
      refine Ev.same hrec (fun k1 => ?_)
      rcases hq with ⟨h3, h4⟩ | ⟨pre', a, h3, h4⟩
      · subst h3
        subst h4
        rw [if_neg (by show ¬ ((0 : Nat) : Int) > 0; omega)]
        rw [if_neg (by omega)] at h2 ⊢
        rw [← h2, Int.add_zero]
      · have hlp : pre.length = pre'.length + 1 := by rw [h3, List.length_append]; rfl
        have hw : wrap64 ((pre.length : Int) - 1) = (pre'.length : Int) := by rw [wrap_id (by omega) (by omega)]; omega
        have hra : rd X (pre'.length : Int) = (a : Int) := by
          rw [← hX, h3, List.append_assoc]
          exact rd_mid pre' _ _
        rw [if_pos (by omega), hw, if_pos (by omega), if_pos (by omega), hra, wrap_id (n := (a : Int) + 1) (by omega) (by omega)]
        by_cases c : q ≥ 1 ∧ (k : Int) = (q : Int)
        · rw [if_pos c] at h2 ⊢
          rw [if_pos (by omega), wrap_id (n := s2 + 3) (by omega) (by omega), h2]
        · rw [if_neg c] at h2 ⊢
          rw [if_neg (by omega), ← h2, Int.add_zero]
    have h3 : ∀ s1 : Int, s1 = s + 1 + (if b = bt nm (k : Int) then 1 else 0) → Ev (fun k1 => glossatorref4_FuzzyAlignmentScore.j3 k1 p nm X s1 (pre.length : Int) (k : Int) (startB nm k)) R := by
      intro s1 h1
      have hs1b : 0 ≤ s1 ∧ s1 ≤ s + 2 := by rw [h1]; split <;> omega
      by_cases c : startB nm k = true
      · refine Ev.stepK (hbon (s1 + 4) (by unfold pointP; rw [if_pos c, h1]; omega) (by omega) (by omega)) (fun k1 => ?_)
        simp only [glossatorref4_FuzzyAlignmentScore.j3]
        rw [if_pos c, wrap_id (n := s1 + 4) (by omega) (by omega)]
      · refine Ev.stepK (hbon s1 (by unfold pointP; rw [if_neg c, h1]; omega) (by omega) (by omega)) (fun k1 => ?_)
        simp only [glossatorref4_FuzzyAlignmentScore.j3]
        rw [if_neg c]
    have h2 : ∀ s1 : Int, s1 = s + 1 + (if b = bt nm (k : Int) then 1 else 0) → Ev (fun k1 => glossatorref4_FuzzyAlignmentScore.j2 k1 p nm X s1 (pre.length : Int) (k : Int) (upB (bt nm (k : Int)))) R := by
      intro s1 h1
      refine Ev.stepK (h3 s1 h1) (fun k1 => ?_)
      simp only [glossatorref4_FuzzyAlignmentScore.j2]
      by_cases c0 : (k : Int) = 0
      · rw [if_pos c0]
        have e : startB nm k = true := by
          unfold startB
          rw [decide_eq_true (by omega : k = 0)]
          rfl
        rw [e]
      · rw [if_neg c0, wrap_id (n := (k : Int) - 1) (by omega) (by omega), if_pos (by omega), if_pos (by omega)]
        have e : startB nm k = ((bt nm ((k : Int) - 1) == 95) || (upB (bt nm (k : Int)) && !upB (bt nm ((k : Int) - 1)))) := by
          unfold startB
          rw [decide_eq_false (by omega : ¬ k = 0)]
          rfl
        rw [e]
        by_cases c1 : bt nm ((k : Int) - 1) = 95
        · rw [if_pos c1, c1]
          rfl
        · rw [if_neg c1, beq_eq_false_iff_ne.2 c1, Bool.false_or]
          by_cases c2 : upB (bt nm (k : Int)) = true
          · rw [if_pos c2, c2, Bool.true_and]
            by_cases c3 : bt nm ((k : Int) - 1) ≥ 65
            · rw [if_pos c3]
              unfold upB
              rw [decide_eq_true (show 65 ≤ bt nm ((k : Int) - 1) from c3), Bool.true_and]
            · rw [if_neg c3]
              unfold upB
              rw [decide_eq_false (show ¬ 65 ≤ bt nm ((k : Int) - 1) from c3), Bool.false_and]
          · rw [if_neg c2, eq_false_of_ne_true c2]
            rfl
    have h1 : ∀ s1 : Int, s1 = s + 1 + (if b = bt nm (k : Int) then 1 else 0) → Ev (fun k1 => glossatorref4_FuzzyAlignmentScore.j1 k1 p nm X s1 (pre.length : Int) (k : Int)) R := by
      intro s1 h1
      refine Ev.stepK (h2 s1 h1) (fun k1 => ?_)
      simp only [glossatorref4_FuzzyAlignmentScore.j1]
      rw [if_pos (by omega), if_pos (by omega)]
      by_cases c3 : bt nm (k : Int) ≥ 65
      · rw [if_pos c3]
        unfold upB
        rw [decide_eq_true (show 65 ≤ bt nm (k : Int) from c3), Bool.true_and]
      · rw [if_neg c3]
        unfold upB
        rw [decide_eq_false (show ¬ 65 ≤ bt nm (k : Int) from c3), Bool.false_and]
    refine Ev.stepK (h1 _ rfl) (fun k1 => ?_)
    simp only [glossatorref4_FuzzyAlignmentScore.l0]
    rw [if_pos (by omega), if_pos (by omega), if_pos (by omega), hrk, if_pos (by omega), if_pos (by omega), hb2]
    by_cases c : b = bt nm (k : Int)
    · rw [if_pos c, if_pos c, wrap_id (n := s + 1) (by omega) (by omega), wrap_id (n := s + 1 + 1) (by omega) (by omega)]
    · rw [if_neg c, if_neg c, wrap_id (n := s + 1) (by omega) (by omega), Int.add_zero]
theorem refscore_l0 (p nm : ByteArray) (all : List (List Int)) (f : List Int → Int) (hf : ∀ a ∈ all, Ev (fun k => glossatorref4_FuzzyAlignmentScore.f k p nm a) (f a)) (hl : all.length ≤ 1000000000) :
    ∀ (L : List (List Int)) (i : Nat) (s : Int) (o : List Int), all.drop i = L →
      Ev (fun k => glossatorref4_FuzzyScore.l0 k p nm all s o (i : Int)) (if (refL f L s o).1 < 0 then (0, [], false) else ((refL f L s o).1, (refL f L s o).2, true)) := by
  intro L
  induction L with
  | nil =>
    intro i s o h
    have h1 : all.length ≤ i := by simpa using h
    show Ev _ (if s < 0 then (0, [], false) else (s, o, true))
    refine Ev.some' (fun k => ?_)
    simp only [glossatorref4_FuzzyScore.l0]
    rw [if_neg (by omega)]
    by_cases c : s < 0
    · rw [if_pos c, if_pos c]
    · rw [if_neg c, if_neg c]
  | cons a t ih =>
    intro i s o h
    have h0 : i < all.length := by
      rcases Nat.lt_or_ge i all.length with h1 | h1
      · exact h1
      · rw [List.drop_eq_nil_of_le h1] at h; cases h
    have h1 := h
    rw [List.drop_eq_getElem_cons h0] at h1
    injection h1 with ha ht
    have hr : rd_L2 all (i : Int) = a := by
      unfold rd_L2
      rw [Int.toNat_natCast, List.getD_eq_getElem?_getD, List.getElem?_eq_getElem h0]
      exact ha
    have hw : wrap64 ((i : Int) + 1) = ((i + 1 : Nat) : Int) := by rw [wrap_id (by omega) (by omega)]; omega
    have hm : a ∈ all := by rw [← ha]; exact List.getElem_mem h0
    have ev : Ev (fun k => (glossatorref4_FuzzyAlignmentScore.f k p nm a).bind (fun t183 => if t183 > s then glossatorref4_FuzzyScore.l0 k p nm all t183 a ((i + 1 : Nat) : Int) else glossatorref4_FuzzyScore.l0 k p nm all s o ((i + 1 : Nat) : Int)))
        (if (refL f (a :: t) s o).1 < 0 then (0, [], false) else ((refL f (a :: t) s o).1, (refL f (a :: t) s o).2, true)) := by
      refine Ev.bind (f := fun k t183 => if t183 > s then glossatorref4_FuzzyScore.l0 k p nm all t183 a ((i + 1 : Nat) : Int) else glossatorref4_FuzzyScore.l0 k p nm all s o ((i + 1 : Nat) : Int)) (hf a hm) ?_
      rw [refL_s]
      by_cases c : f a > s
      · rw [if_pos c]
        exact Ev.pos c (ih (i + 1) (f a) a ht)
      · rw [if_neg c]
        exact Ev.neg c (ih (i + 1) s o ht)
    refine Ev.stepK ev (fun k => ?_)
    simp only [glossatorref4_FuzzyScore.l0]
    rw [if_pos (by omega), if_pos (by omega), hr, hw]
theorem refscore_ev (p nm : ByteArray) (hp : p.size ≤ 6) (hn : nm.size ≤ 14) : Ev (fun k => glossatorref4_FuzzyScore.f k p nm) (scoreP p nm) := by
  have ha : Ev (fun k => glossatorref4_FuzzyAlignments.f k p nm []) (alnT nm (bytesP p) 0) := by
    have h := aln_ev p nm hp hn (bytesP p) [] 0 rfl (Nat.zero_le _) (.inl ⟨rfl, rfl⟩) (Nat.zero_le _)
    have e : (alnT nm (bytesP p) 0).map (([] : List Int) ++ ·) = alnT nm (bytesP p) 0 := by simp
    rw [e] at h
    exact h
  have hlen : (alnT nm (bytesP p) 0).length ≤ 1000000000 := by
    have h1 := alnT_len nm hn (bytesP p) 0
    have h2 := pow_bound (bytesP p).length (by rw [bytes_len]; omega)
    omega
  have hs : ∀ a ∈ alnT nm (bytesP p) 0, Ev (fun k => glossatorref4_FuzzyAlignmentScore.f k p nm a) (scT nm (bytesP p) 0 a) := by
    intro a h
    have h1 := score_ev p nm hp hn (bytesP p) [] a 0 0 rfl (alnT_ok nm _ 0 a h) (.inl ⟨rfl, rfl⟩) (Nat.zero_le _) (Int.le_refl 0) (by rw [bytes_len]; omega)
    rw [Int.zero_add] at h1
    exact h1
  have hl := refscore_l0 p nm (alnT nm (bytesP p) 0) (scT nm (bytesP p) 0) hs hlen _ 0 (-1) [] rfl
  rw [List.drop_zero] at hl
  have hge := refL_ge (scT nm (bytesP p) 0) (alnT nm (bytesP p) 0) (-1) []
  rw [bp_ref] at hl hge
  have e : (if (bp nm (bytesP p) 0).1 < 0 then (0, [], false) else ((bp nm (bytesP p) 0).1, (bp nm (bytesP p) 0).2, true)) = scoreP p nm := by
    rw [score_is p nm (by omega) (by omega)]
    by_cases c : (bp nm (bytesP p) 0).1 = -1
    · rw [if_pos c, if_pos (by omega)]
    · rw [if_neg c, if_neg (by omega)]
  rw [e] at hl
  have hj : Ev (fun k => glossatorref4_FuzzyScore.j0 k p nm false) (scoreP p nm) := by
    refine Ev.stepK (Ev.bind (f := fun k t => glossatorref4_FuzzyScore.l0 k p nm t (-1) [] 0) ha hl) (fun k => ?_)
    simp only [glossatorref4_FuzzyScore.j0]
    rw [if_neg (by simp)]
  refine Ev.same hj (fun k => ?_)
  unfold glossatorref4_FuzzyScore.f
  rw [if_neg (by omega), decide_eq_false (by omega)]
theorem refscore_big (p nm : ByteArray) (h : p.size > 30 ∨ nm.size > 30) : Ev (fun k => glossatorref4_FuzzyScore.f k p nm) (scoreP p nm) := by
  have e : scoreP p nm = (0, [], false) := by unfold scoreP; rw [if_pos h]
  rw [e]
  have hj : Ev (fun k => glossatorref4_FuzzyScore.j0 k p nm true) ((0, [], false) : Int × List Int × Bool) := Ev.some' (fun k => by
    simp only [glossatorref4_FuzzyScore.j0]
    rw [if_pos trivial])
  refine Ev.same hj (fun k => ?_)
  unfold glossatorref4_FuzzyScore.f
  by_cases c : (p.size : Int) > 30
  · rw [if_pos c]
  · rw [if_neg c, decide_eq_true (by omega)]
theorem eqInts_l0 (xs : List Int) (hx : xs.length < 1000000) : ∀ (t : List Int) (i : Nat), xs.drop i = t → Ev (fun k => glossatorref4_EqualInts.l0 k xs xs (i : Int)) true := by
  intro t
  induction t with
  | nil =>
    intro i h
    have h1 : xs.length ≤ i := by simpa using h
    exact Ev.some' (fun k => by simp only [glossatorref4_EqualInts.l0]; rw [if_neg (by omega)])
  | cons a t ih =>
    intro i h
    have h0 : i < xs.length := by
      rcases Nat.lt_or_ge i xs.length with h1 | h1
      · exact h1
      · rw [List.drop_eq_nil_of_le h1] at h; cases h
    have h1 := h
    rw [List.drop_eq_getElem_cons h0] at h1
    injection h1 with ha ht
    refine Ev.stepK (ih (i + 1) ht) (fun k => ?_)
    simp only [glossatorref4_EqualInts.l0]
    rw [if_pos (by omega), if_pos (by omega), if_pos (by omega), if_pos trivial, wrap_id (by omega) (by omega)]
    rfl
theorem eqInts_ev (xs : List Int) (hx : xs.length < 1000000) : Ev (fun k => glossatorref4_EqualInts.f k xs xs) true :=
  Ev.same (eqInts_l0 xs hx xs 0 rfl) (fun k => by unfold glossatorref4_EqualInts.f; rw [if_pos rfl]; rfl)
theorem score_len (p nm : ByteArray) : (scoreP p nm).2.1.length < 1000000 := by
  by_cases h : p.size > 30 ∨ nm.size > 30
  · have e : scoreP p nm = (0, [], false) := by unfold scoreP; rw [if_pos h]
    rw [e]
    decide
  · rw [score_is p nm (by omega) (by omega)]
    split
    · decide
    · have := bp_len nm (bytesP p) 0
      rw [bytes_len] at this
      show (bp nm (bytesP p) 0).2.length < _
      omega
theorem wf_u8 {n : Int} (h : (Lit.int .u8 n).wf = true) : 0 ≤ n ∧ n ≤ 255 := by
  simpa [Lit.wf, IntKind.min, IntKind.max, IntKind.signed, IntKind.bits] using h
theorem exS1 : fuzzy_Score.f (⟨#[103, 98]⟩ : ByteArray) (⟨#[103, 101, 116, 66, 105, 103]⟩ : ByteArray) = some (11, [0, 3], true) := by decide +kernel
theorem exS2 : fuzzy_Score.f (⟨#[98, 97]⟩ : ByteArray) (⟨#[97, 98]⟩ : ByteArray) = some (0, [], false) := by decide +kernel
theorem exR : fuzzy_Rank.f (⟨#[97]⟩ : ByteArray) (([(⟨#[98, 97]⟩ : ByteArray), (⟨#[97]⟩ : ByteArray), (⟨#[98, 65]⟩ : ByteArray), (⟨#[65]⟩ : ByteArray), (⟨#[120]⟩ : ByteArray)] : List ByteArray)) = some ([1, 3, 2, 0], 0) := by decide +kernel
theorem exF1 : fuzzy_EqualFold.f 97 65 = some true := by decide +kernel
theorem exF2 : fuzzy_EqualFold.f 91 123 = some false := by decide +kernel
theorem examples_ev : Ev (fun k => glossatorlaw4_fuzzyExamples.f k) true := by
  have e1 : Ev (fun k => (glossatorref4_EqualInts.f k [1, 3, 2, 0] [1, 3, 2, 0]).bind fun t146 => if t146 = true then some true else some false) true :=
    Ev.bind (f := fun _ (t146 : Bool) => if t146 = true then some true else some false) (eqInts_ev _ (by decide)) (Ev.now true)
  have e2 : Ev (fun k => (glossatorref4_EqualInts.f k [0, 3] [0, 3]).bind fun t142 => if t142 = true then ((glossatorref4_EqualInts.f k [1, 3, 2, 0] [1, 3, 2, 0]).bind fun t146 => if t146 = true then some true else some false) else some false) true :=
    Ev.bind (f := fun k (t142 : Bool) => if t142 = true then ((glossatorref4_EqualInts.f k [1, 3, 2, 0] [1, 3, 2, 0]).bind fun t146 => if t146 = true then some true else some false) else some false) (eqInts_ev _ (by decide)) (Ev.same e1 (fun k => if_pos rfl))
  refine Ev.same e2 (fun k => ?_)
  unfold glossatorlaw4_fuzzyExamples.f
  rw [exS1, exS2, exR, exF1, exF2]
  rfl
theorem tail_ev (x2 x3 : Int) (h2 : 0 ≤ x2 ∧ x2 ≤ 255) (h3 : 0 ≤ x3 ∧ x3 ≤ 255) (a : Int) (l : List Int) (c : Bool) (hl : l.length < 1000000) :
    Ev (fun k => glossatorlaw4_FuzzyScoreEqualsReference.j2 k x2 x3 a l c a l c x2 x3 (upB x2)) true := by
  have hend : ∀ x16, x16 = lowP x3 → Ev (fun k => (glossatorref4_EqualInts.f k l l).bind fun t => if t = true then (if (c == c) = true then ((fuzzy_EqualFold.f x2 x3).bind fun t197 => some (t197 == (lowP x2 == x16))) else some false) else some false) true := by
    intro x16 hx
    refine Ev.bind (f := fun _ (t : Bool) => if t = true then (if (c == c) = true then ((fuzzy_EqualFold.f x2 x3).bind fun t197 => some (t197 == (lowP x2 == x16))) else some false) else some false) (eqInts_ev l hl) ?_
    refine Ev.same (Ev.now true) (fun k => ?_)
    show (if true = true then (if (c == c) = true then ((fuzzy_EqualFold.f x2 x3).bind fun t197 => some (t197 == (lowP x2 == x16))) else some false) else some false) = some true
    rw [if_pos rfl, if_pos (beq_self_eq_true c), fold_eq x2 x3 h2 h3, hx]
    show some (foldB x2 x3 == (lowP x2 == lowP x3)) = some true
    unfold foldB
    rw [beq_self_eq_true]
  have h4 : Ev (fun k => glossatorlaw4_FuzzyScoreEqualsReference.j4 k x2 x3 a l c a l c (lowP x2) x3 (upB x3)) true := by
    by_cases cu : upB x3 = true
    · refine Ev.stepK (hend ((x3 + 32) % 256) ?_) (fun k => ?_)
      · unfold upB at cu
        simp only [Bool.and_eq_true, decide_eq_true_eq] at cu
        unfold lowP
        rw [if_pos cu]
        omega
      · simp only [glossatorlaw4_FuzzyScoreEqualsReference.j4]
        rw [if_pos cu, if_pos trivial]
    · refine Ev.stepK (hend x3 ?_) (fun k => ?_)
      · unfold upB at cu
        simp only [Bool.and_eq_true, decide_eq_true_eq] at cu
        unfold lowP
        rw [if_neg cu]
      · simp only [glossatorlaw4_FuzzyScoreEqualsReference.j4]
        rw [if_neg cu, if_pos trivial]
  have h5 : Ev (fun k => glossatorlaw4_FuzzyScoreEqualsReference.j3 k x2 x3 a l c a l c (lowP x2) x3) true := by
    refine Ev.stepK h4 (fun k => ?_)
    simp only [glossatorlaw4_FuzzyScoreEqualsReference.j3]
    by_cases c3 : x3 ≥ 65
    · rw [if_pos c3]
      unfold upB
      rw [decide_eq_true (show 65 ≤ x3 from c3), Bool.true_and]
    · rw [if_neg c3]
      unfold upB
      rw [decide_eq_false (show ¬ 65 ≤ x3 from c3), Bool.false_and]
  refine Ev.stepK h5 (fun k => ?_)
  simp only [glossatorlaw4_FuzzyScoreEqualsReference.j2]
  by_cases cu : upB x2 = true
  · rw [if_pos cu]
    unfold upB at cu
    simp only [Bool.and_eq_true, decide_eq_true_eq] at cu
    have e : (x2 + 32) % 256 = lowP x2 := by
      unfold lowP
      rw [if_pos cu]
      omega
    rw [e]
  · rw [if_neg cu]
    unfold upB at cu
    simp only [Bool.and_eq_true, decide_eq_true_eq] at cu
    have e : x2 = lowP x2 := by
      unfold lowP
      rw [if_neg cu]
    rw [← e]
theorem law_j1 (p nm : ByteArray) (x2 x3 : Int) (h2 : 0 ≤ x2 ∧ x2 ≤ 255) (h3 : 0 ≤ x3 ∧ x3 ≤ 255) (hr : Ev (fun k => glossatorref4_FuzzyScore.f k p nm) (scoreP p nm)) : Ev (fun k => glossatorlaw4_FuzzyScoreEqualsReference.j1 k p nm x2 x3) true := by
  have ht := tail_ev x2 x3 h2 h3 (scoreP p nm).1 (scoreP p nm).2.1 (scoreP p nm).2.2 (score_len p nm)
  have ev := Ev.bind (f := fun k (r : Int × List Int × Bool) => glossatorlaw4_FuzzyScoreEqualsReference.j2 k x2 x3 (scoreP p nm).1 (scoreP p nm).2.1 (scoreP p nm).2.2 r.1 r.2.1 r.2.2 x2 x3 (upB x2)) hr ht
  refine Ev.stepK ev (fun k => ?_)
  simp only [glossatorlaw4_FuzzyScoreEqualsReference.j1, fuzzy_Score.f, Option.bind_some]
  by_cases c3 : x2 ≥ 65
  · unfold upB
    rw [decide_eq_true (show 65 ≤ x2 from c3), Bool.true_and]
    congr 1
    funext r
    rw [if_pos c3]
  · unfold upB
    rw [decide_eq_false (show ¬ 65 ≤ x2 from c3), Bool.false_and]
    congr 1
    funext r
    rw [if_neg c3]
theorem mn_nat (a : Nat) (b : Int) (hb : 0 ≤ b) : 0 ≤ mn (a : Int) b ∧ mn (a : Int) b ≤ (a : Int) ∧ mn (a : Int) b ≤ b := by
  unfold mn
  split <;> omega
theorem ext_size (s : ByteArray) (n m : Nat) (h : n ≤ m) : (s.extract 0 n).size ≤ m := by
  rw [ByteArray.size_extract]
  omega
theorem FuzzyScoreEqualsReference : glossatorlaw4_FuzzyScoreEqualsReference.PureR := by
  intro a0 a1 a2 a3 w0 w1 w2 w3
  have h2 := wf_u8 w2
  have h3 := wf_u8 w3
  have hmain : Ev (fun k => if (a0.size : Int) ≤ 30 then glossatorlaw4_FuzzyScoreEqualsReference.j0 k a0 a1 a2 a3 (decide ((a1.size : Int) ≤ 30)) else glossatorlaw4_FuzzyScoreEqualsReference.j0 k a0 a1 a2 a3 false) true := by
    by_cases c : (a0.size : Int) ≤ 30 ∧ (a1.size : Int) ≤ 30
    · obtain ⟨m1, m2, m3⟩ := mn_nat a0.size 6 (by decide)
      obtain ⟨m4, m5, m6⟩ := mn_nat a1.size 14 (by decide)
      refine Ev.pos c.1 (Ev.stepK (law_j1 _ _ a2 a3 h2 h3 (refscore_ev (a0.extract 0 (mn (a0.size : Int) 6).toNat) (a1.extract 0 (mn (a1.size : Int) 14).toNat) (ext_size _ _ _ (by omega)) (ext_size _ _ _ (by omega)))) (fun k => ?_))
      simp only [glossatorlaw4_FuzzyScoreEqualsReference.j0]
      rw [if_pos (decide_eq_true c.2), if_pos m1, if_pos m2, if_pos m4, if_pos m5]
    · have hj : Ev (fun k => glossatorlaw4_FuzzyScoreEqualsReference.j0 k a0 a1 a2 a3 false) true := by
        refine Ev.stepK (law_j1 a0 a1 a2 a3 h2 h3 (refscore_big a0 a1 (by omega))) (fun k => ?_)
        simp only [glossatorlaw4_FuzzyScoreEqualsReference.j0]
        rw [if_neg (by simp)]
      refine Ev.same hj (fun k => ?_)
      by_cases c0 : (a0.size : Int) ≤ 30
      · rw [if_pos c0, decide_eq_false (fun h => c ⟨c0, h⟩)]
      · rw [if_neg c0]
  have ev := Ev.bind (f := fun k (t : Bool) => if t = true then (if (a0.size : Int) ≤ 30 then glossatorlaw4_FuzzyScoreEqualsReference.j0 k a0 a1 a2 a3 (decide ((a1.size : Int) ≤ 30)) else glossatorlaw4_FuzzyScoreEqualsReference.j0 k a0 a1 a2 a3 false) else some false) examples_ev (Ev.same hmain (fun k => if_pos rfl))
  exact Ev.rounds (Ev.same ev (fun k => rfl))
end Go.Proofs.Ytpkdgdhfhgelbaa.Pr
