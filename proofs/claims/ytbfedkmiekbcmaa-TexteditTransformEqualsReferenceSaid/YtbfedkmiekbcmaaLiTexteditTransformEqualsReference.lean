/-
  The reference's way to apply edits to traced bytes gives what applyTraced gives; the canonical edits as one list function.
-/
import Derived.Test.YtbfedkmiekbcmaaByTexteditTransformEqualsReference
namespace Go.Proofs.Ytbfedkmiekbcmaa.PrTexteditTransformEqualsReference
open Go.RowKit Go.Proofs.YtbfedkmiekbcmaaW.PrintWords Go.Proofs.YtbfedkmiekbcmaaW.PrintLast Go.Proofs.YtbfedkmiekbcmaaW.PrintMore Go.Proofs.Ytbfedkmiekbcmaa.QTexteditTransformEqualsReference Go.Proofs.Ytbfedkmiekbcmaa.Aid
set_option linter.unusedSimpArgs false
set_option linter.unusedVariables false
theorem insB_nil (o : Int) : insB o ⟨#[]⟩ = [] := rfl
def refT (es : List S137) : List S200 → Nat → List S200
  | [], i => insB (-1) (insF i es)
  | b :: r, i => insB (-1) (insF i es) ++ ((if delF i es = true then [] else [b]) ++ refT es r (i + 1))
def refU (es : List S137) : List S200 → Nat → List S200
  | [], _ => []
  | b :: r, i => (if delF i es = true then [] else [b]) ++ refT es r (i + 1)
theorem refT_eq (es : List S137) (r : List S200) (i : Nat) : refT es r i = insB (-1) (insF i es) ++ refU es r i := by
  cases r with
  | nil => rw [refT, refU, List.append_nil]
  | cons b r => rw [refT, refU]
theorem vd_all {sz : Int} : ∀ {t : List S137} {p : Int}, Vd sz p t → ∀ e ∈ t, p < e.f0 ∧ e.f0 ≤ e.f1 ∧ e.f1 ≤ sz := by
  intro t
  induction t with
  | nil => intro p _ e he; cases he
  | cons a t ih =>
    intro p h e he
    obtain ⟨v1, v2, v3, v4⟩ := h
    rcases List.mem_cons.1 he with rfl | he
    · exact ⟨v1, v2, v3⟩
    · have := ih v4 e he
      exact ⟨by omega, this.2⟩
theorem delF_false {j : Int} : ∀ {t : List S137}, (∀ e ∈ t, j < e.f0) → delF j t = false := by
  intro t
  induction t with
  | nil => intro _; rfl
  | cons e t ih =>
    intro h
    have := h e (List.mem_cons_self ..)
    rw [delF, if_neg (by omega), ih (fun e' he => h e' (List.mem_cons_of_mem _ he))]
theorem insF_none {j : Int} : ∀ {t : List S137}, (∀ e ∈ t, e.f0 ≠ j) → insF j t = ⟨#[]⟩ := by
  intro t
  induction t with
  | nil => intro _; rfl
  | cons e t ih =>
    intro h
    rw [insF, if_neg (h e (List.mem_cons_self ..)), ih (fun e' he => h e' (List.mem_cons_of_mem _ he))]
theorem refU_ok (bs : List S200) (es : List S137) : ∀ (r : List S200) (i : Nat), bs.drop i = r → i ≤ bs.length →
    (∀ t : List S137, Vd bs.length i t → (∀ j : Int, (i : Int) ≤ j → delF j es = delF j t) → (∀ j : Int, (i : Int) < j → insF j es = insF j t) → refU es r i = apT bs t i) ∧
    (∀ (e : S137) (t : List S137), e.f0 ≤ i → (i : Int) ≤ e.f1 → e.f1 ≤ bs.length → Vd bs.length e.f1 t → (∀ j : Int, (i : Int) ≤ j → delF j es = delF j (e :: t)) → (∀ j : Int, (i : Int) < j → insF j es = insF j (e :: t)) → refU es r i = apT bs t e.f1.toNat) := by
  intro r
  induction r with
  | nil =>
    intro i hr hi
    have hlen : bs.length ≤ i := List.drop_eq_nil_iff.1 hr
    have one : ∀ t : List S137, Vd bs.length i t → refU es [] i = apT bs t i := by
      intro t hv
      cases t with
      | nil => rw [refU, apT, hr]
      | cons e t => obtain ⟨v1, v2, v3, v4⟩ := hv; omega
    refine ⟨fun t hv _ _ => one t hv, fun e t h1 h2 h3 hv _ _ => ?_⟩
    have he : e.f1 = (i : Int) := by omega
    rw [he, Int.toNat_natCast]
    rw [he] at hv
    exact one t hv
  | cons b r ih =>
    intro i hr hi
    have hlt : i < bs.length := by
      rcases Nat.lt_or_ge i bs.length with h | h
      · exact h
      · rw [List.drop_of_length_le h] at hr; cases hr
    have hr1 : bs.drop (i + 1) = r := by rw [List.drop_eq_getElem_cons hlt] at hr; injection hr
    obtain ⟨ih1, ih2⟩ := ih (i + 1) hr1 (by omega)
    have one : ∀ t : List S137, Vd bs.length i t → (∀ j : Int, (i : Int) ≤ j → delF j es = delF j t) → (∀ j : Int, (i : Int) < j → insF j es = insF j t) → refU es (b :: r) i = apT bs t i := by
      intro t hv hd hn
      have hall := vd_all hv
      rw [refU, hd i (by omega), delF_false (fun e he => (hall e he).1), if_neg (by simp), refT_eq, hn _ (by omega)]
      cases t with
      | nil =>
        rw [ih1 [] trivial (fun j hj => hd j (by omega)) (fun j hj => hn j (by omega)), apT, apT, hr, hr1]
        rfl
      | cons e t =>
        obtain ⟨v1, v2, v3, v4⟩ := hv
        by_cases c : e.f0 = ((i + 1 : Nat) : Int)
        · rw [insF, if_pos c, ih2 e t (by omega) (by omega) v3 v4 (fun j hj => hd j (by omega)) (fun j hj => hn j (by omega)), apT]
          have : (bs.take e.f0.toNat).drop i = [b] := by
            rw [List.drop_take, hr, show e.f0.toNat - i = 1 by omega]; rfl
          rw [this, List.append_assoc]
        · rw [insF_none (fun e' he => by
            rcases List.mem_cons.1 he with rfl | he
            · exact c
            · have := vd_all v4 e' he; omega), insB_nil, List.nil_append, ih1 (e :: t) ⟨by omega, v2, v3, v4⟩ (fun j hj => hd j (by omega)) (fun j hj => hn j (by omega)), apT, apT]
          have : (bs.take e.f0.toNat).drop i = b :: (bs.take e.f0.toNat).drop (i + 1) := by
            rw [List.drop_take, List.drop_take, hr, hr1, show e.f0.toNat - i = (e.f0.toNat - (i + 1)) + 1 by omega]; rfl
          rw [this]
          simp only [List.append_assoc, List.cons_append, List.nil_append]
    refine ⟨one, fun e t h1 h2 h3 hv hd hn => ?_⟩
    by_cases c : e.f1 = (i : Int)
    · rw [c, Int.toNat_natCast]
      rw [c] at hv
      refine one t hv (fun j hj => ?_) (fun j hj => ?_)
      · rw [hd j hj, delF, if_neg (by omega)]
      · rw [hn j hj, insF, if_neg (by omega)]
    · have hf : insF ((i + 1 : Nat) : Int) (e :: t) = ⟨#[]⟩ := insF_none (fun e' he => by
          rcases List.mem_cons.1 he with rfl | he
          · omega
          · have := vd_all hv e' he; omega)
      have hdt : delF (i : Int) (e :: t) = true := by rw [delF, if_pos ⟨h1, by omega⟩]
      rw [refU, hd i (by omega), hdt, if_pos rfl, List.nil_append, refT_eq, hn _ (by omega), hf, insB_nil, List.nil_append]
      exact ih2 e t (by omega) (by omega) h3 hv (fun j hj => hd j (by omega)) (fun j hj => hn j (by omega))
theorem refT_ok {bs : List S200} {es : List S137} (hv : Vd bs.length (-1) es) : refT es bs 0 = apT bs es 0 := by
  obtain ⟨h1, h2⟩ := refU_ok bs es bs 0 rfl (by omega)
  rw [refT_eq]
  cases es with
  | nil => rw [insF, insB_nil, List.nil_append]; exact h1 [] trivial (fun _ _ => rfl) (fun _ _ => rfl)
  | cons e t =>
    obtain ⟨v1, v2, v3, v4⟩ := hv
    by_cases c : e.f0 = ((0 : Nat) : Int)
    · rw [insF, if_pos c, h2 e t (by omega) (by omega) v3 v4 (fun _ _ => rfl) (fun _ _ => rfl), apT, List.drop_zero, show e.f0.toNat = 0 by omega]; rfl
    · rw [insF_none (fun e' he => by
          rcases List.mem_cons.1 he with rfl | he
          · exact c
          · have := vd_all v4 e' he; omega), insB_nil, List.nil_append]
      exact h1 (e :: t) ⟨by omega, v2, v3, v4⟩ (fun _ _ => rfl) (fun _ _ => rfl)
theorem apT_mem {bs : List S200} : ∀ (t : List S137) (off : Nat), ∀ x ∈ apT bs t off, x.f1 = -1 ∨ x ∈ bs := by
  intro t
  induction t with
  | nil => intro off x hx; rw [apT] at hx; exact .inr (List.mem_of_mem_drop hx)
  | cons e t ih =>
    intro off x hx
    rw [apT, List.mem_append, List.mem_append] at hx
    rcases hx with (hx | hx) | hx
    · exact .inr (List.mem_of_mem_take (List.mem_of_mem_drop hx))
    · unfold insB at hx; obtain ⟨b, _, rfl⟩ := List.mem_map.1 hx; exact .inl rfl
    · exact ih _ x hx
/-- The canonical edits, from a byte on. -/
def canL (n : Int) : List S200 → Int → List Int → List S137
  | [], start, pend => if start < n ∨ pend ≠ [] then [⟨start, n, strOfNums pend⟩] else []
  | b :: t, start, pend => if b.f1 = -1 then canL n t start (pend ++ [b.f0]) else (if start < b.f1 ∨ pend ≠ [] then [⟨start, b.f1, strOfNums pend⟩] else []) ++ canL n t (b.f1 + 1) []
def canR (n : Int) (bs : List S200) : List S137 × Int := if ((canL n bs 0 []).length : Int) > 50 then ([], 2) else (canL n bs 0 [], 0)
theorem canP_ok {n : Int} (hn : 0 ≤ n) (hn' : n ≤ 4611686018427387904) : ∀ (bs : List S200) (start : Int) (pend : List Int) (out : List S137), (∀ b ∈ bs, b.f1 = -1 ∨ 0 ≤ b.f1 ∧ b.f1 ≤ 4611686018427387904) → bs.length + pend.length ≤ 1000000000 → bs.length + out.length ≤ 1000000000 →
    (canP bs start pend out).bind (fun r => (flushP r.1 r.2.1 r.2.2 n).bind fun r2 => if (r2.2.2.length : Int) > 50 then some ([], 2) else some (r2.2.2, 0)) = some (if ((out ++ canL n bs start pend).length : Int) > 50 then ([], (2 : Int)) else (out ++ canL n bs start pend, 0)) := by
  intro bs
  induction bs with
  | nil =>
    intro start pend out _ h1 h2
    rw [canP, Option.bind_some, flushP, canL]
    by_cases c : start < n ∨ pend ≠ []
    · rw [if_pos c, if_pos c, if_pos (by show out.length < _; simp only [List.length_nil] at h2; omega), Option.bind_some]
      simp only []
      split <;> rfl
    · rw [if_neg c, if_neg c, Option.bind_some, List.append_nil]
      simp only []
      split <;> rfl
  | cons b t ih =>
    intro start pend out hb h1 h2
    rw [List.length_cons] at h1 h2
    have hb0 := hb b (List.mem_cons_self ..)
    have hbt : ∀ x ∈ t, x.f1 = -1 ∨ 0 ≤ x.f1 ∧ x.f1 ≤ 4611686018427387904 := fun x hx => hb x (List.mem_cons_of_mem _ hx)
    rw [canP, canL]
    by_cases c : b.f1 = -1
    · rw [if_pos c, if_pos c, if_pos (by omega)]
      exact ih start (pend ++ [b.f0]) out hbt (by rw [List.length_append, List.length_singleton]; omega) (by omega)
    · rw [if_neg c, if_neg c, flushP]
      have hw : wrap64 (b.f1 + 1) = b.f1 + 1 := wrap_id (by omega) (by omega)
      by_cases d : start < b.f1 ∨ pend ≠ []
      · rw [if_pos d, if_pos d, if_pos (by omega), Option.bind_some, hw]
        have := ih (b.f1 + 1) [] (out ++ [⟨start, b.f1, strOfNums pend⟩]) hbt (by simp; omega) (by rw [List.length_append, List.length_singleton]; omega)
        rw [List.append_assoc] at this
        exact this
      · rw [if_neg d, if_neg d, Option.bind_some, hw, List.nil_append]
        exact ih (b.f1 + 1) [] out hbt (by simp; omega) (by omega)
theorem canonical_ok {n : Int} {bs : List S200} (hn : 0 ≤ n) (hn' : n ≤ 4611686018427387904) (hb : ∀ b ∈ bs, b.f1 = -1 ∨ 0 ≤ b.f1 ∧ b.f1 ≤ 4611686018427387904) (hl : bs.length ≤ 1000000000) : textedit_canonical.f n bs = some (canR n bs) := by
  have := canP_ok hn hn' bs 0 [] [] hb (by simpa using hl) (by simpa using hl)
  rw [List.nil_append] at this
  exact this
end Go.Proofs.Ytbfedkmiekbcmaa.PrTexteditTransformEqualsReference
