/-
  Two lists of edits merged: what the program's two mergers come to, and what the reference's MergeEdits comes to.
-/
import Derived.Test.YtbfedkmiekbcmaaBoTexteditTransformEqualsReference
namespace Go.Proofs.Ytbfedkmiekbcmaa.PrTexteditTransformEqualsReference
open Go.RowKit Go.Proofs.YtbfedkmiekbcmaaW.PrintWords Go.Proofs.YtbfedkmiekbcmaaW.PrintLast Go.Proofs.YtbfedkmiekbcmaaW.PrintMore Go.Proofs.Ytbfedkmiekbcmaa.QTexteditTransformEqualsReference Go.Proofs.Ytbfedkmiekbcmaa.Aid
set_option linter.unusedSimpArgs false
set_option linter.unusedVariables false
set_option linter.unusedSectionVars false
def mgI (fl : Bool) (T U : ByteArray) (off : Int) : List S200 := if fl = true then insO off T ++ insB (-1) U else insB (-1) T ++ insO off U
def mgO (fl : Bool) (T U : ByteArray) (off : Int) : Int := if fl = true then off + T.size else off + U.size
def own (fl : Bool) (L R : List S137) : List S137 := if fl = true then L else R
def mgA (fl : Bool) (L R : List S137) : List S200 → Nat → Int → List S200
  | [], i, off => mgI fl (insF i L) (insF i R) off
  | b :: r, i, off => mgI fl (insF i L) (insF i R) off ++ ((if delF i L = false ∧ delF i R = false then [⟨b.f0, mgO fl (insF i L) (insF i R) off⟩] else []) ++ mgA fl L R r (i + 1) (if delF i (own fl L R) = true then mgO fl (insF i L) (insF i R) off else mgO fl (insF i L) (insF i R) off + 1))
theorem insO_nil (o : Int) : insO o ⟨#[]⟩ = [] := rfl
theorem mgI_length (fl : Bool) (T U : ByteArray) (off : Int) : (mgI fl T U off).length = T.size + U.size := by
  unfold mgI
  split <;> rw [List.length_append, insO_length, insB_length]
theorem insF_size {M : Nat} (i : Int) : ∀ {t : List S137}, (∀ e ∈ t, e.f2.size ≤ M) → (insF i t).size ≤ M := by
  intro t
  induction t with
  | nil => intro _; exact Nat.zero_le _
  | cons e t ih =>
    intro h
    rw [insF]
    split
    · exact h e (List.mem_cons_self ..)
    · exact ih (fun e' he => h e' (List.mem_cons_of_mem _ he))
theorem mgA_length {fl : Bool} {L R : List S137} (hL : ∀ e ∈ L, e.f2.size ≤ 5000) (hR : ∀ e ∈ R, e.f2.size ≤ 5000) : ∀ (r : List S200) (i : Nat) (off : Int), (mgA fl L R r i off).length ≤ (r.length + 1) * 10001 := by
  intro r
  induction r with
  | nil =>
    intro i off
    have h1 := insF_size (i : Int) hL
    have h2 := insF_size (i : Int) hR
    rw [mgA, mgI_length]
    simp only [List.length_nil]
    omega
  | cons b r ih =>
    intro i off
    have h1 := insF_size (i : Int) hL
    have h2 := insF_size (i : Int) hR
    have h3 := ih (i + 1) (if delF i (own fl L R) = true then mgO fl (insF i L) (insF i R) off else mgO fl (insF i L) (insF i R) off + 1)
    rw [mgA, List.length_append, List.length_append, mgI_length, List.length_cons]
    have h4 : (if delF i L = false ∧ delF i R = false then [(⟨b.f0, mgO fl (insF i L) (insF i R) off⟩ : S200)] else []).length ≤ 1 := by split <;> simp
    omega
theorem insO_mem {o : Int} {s : ByteArray} {x : S200} (h : x ∈ insO o s) : o ≤ x.f1 ∧ x.f1 < o + s.size := by
  unfold insO at h
  obtain ⟨j, hj, rfl⟩ := List.mem_mapIdx.1 h
  have : s.data.toList.length = s.size := rfl
  simp only
  omega
theorem insB_mem {s : ByteArray} {x : S200} (h : x ∈ insB (-1) s) : x.f1 = -1 := by
  unfold insB at h
  obtain ⟨b, _, rfl⟩ := List.mem_map.1 h
  rfl
theorem mgI_mem {fl : Bool} {T U : ByteArray} {off : Int} {x : S200} (h : x ∈ mgI fl T U off) : x.f1 = -1 ∨ off ≤ x.f1 ∧ x.f1 < mgO fl T U off := by
  unfold mgI mgO at *
  split at h
  · rename_i c
    rw [if_pos c]
    rcases List.mem_append.1 h with h | h
    · exact .inr (insO_mem h)
    · exact .inl (insB_mem h)
  · rename_i c
    rw [if_neg c]
    rcases List.mem_append.1 h with h | h
    · exact .inl (insB_mem h)
    · exact .inr (insO_mem h)
theorem mgO_own (fl : Bool) (L R : List S137) (i off : Int) : mgO fl (insF i L) (insF i R) off = off + (insF i (own fl L R)).size := by
  unfold mgO own
  split <;> rfl
theorem mgA_mem {fl : Bool} {L R : List S137} : ∀ (r : List S200) (i : Nat) (off : Int), 0 ≤ off → ∀ x ∈ mgA fl L R r i off, x.f1 = -1 ∨ 0 ≤ x.f1 ∧ x.f1 < off + (refT (own fl L R) r i).length := by
  intro r
  induction r with
  | nil =>
    intro i off ho x hx
    rw [mgA] at hx
    have := mgI_mem hx
    rw [mgO_own] at this
    rw [refT, insB_length]
    omega
  | cons b r ih =>
    intro i off ho x hx
    rw [mgA, List.mem_append, List.mem_append] at hx
    rw [refT, List.length_append, List.length_append, insB_length]
    rw [mgO_own] at hx
    rcases hx with hx | hx | hx
    · have := mgI_mem hx
      rw [mgO_own] at this
      omega
    · split at hx
      · next c =>
        have hd : delF i (own fl L R) = false := by unfold own; split; exact c.1; exact c.2
        rw [List.mem_singleton] at hx
        subst hx
        rw [hd, if_neg (by simp)]
        refine .inr ⟨?_, ?_⟩
        · show 0 ≤ off + ((insF i (own fl L R)).size : Int); omega
        · show off + ((insF i (own fl L R)).size : Int) < _
          simp only [List.length_singleton]
          omega
      · cases hx
    · by_cases c : delF i (own fl L R) = true
      · rw [if_pos c] at hx ⊢
        have := ih (i + 1) _ (by omega) x hx
        simp only [List.length_nil]
        omega
      · rw [if_neg c] at hx ⊢
        have := ih (i + 1) _ (by omega) x hx
        simp only [List.length_singleton]
        omega
/-- The edits that are left tell of offset i and beyond what all tell. -/
structure Cur (sz : Int) (i : Nat) (le L : List S137) : Prop where
  del : ∀ j : Int, (i : Int) ≤ j → delF j L = delF j le
  ins : ∀ j : Int, (i : Int) ≤ j → insF j L = insF j le
  vd : ∃ p, Vd sz p le
  fin : ∀ e ∈ le, (i : Int) ≤ e.f1
theorem Cur.start {sz : Int} {L : List S137} (h : Vd sz (-1) L) : Cur sz 0 L L :=
  ⟨fun _ _ => rfl, fun _ _ => rfl, ⟨-1, h⟩, fun e he => by have := vd_all h e he; omega⟩
theorem Cur.text {sz : Int} {i : Nat} {e : S137} {t L : List S137} (h : Cur sz i (e :: t) L) : insF i L = if e.f0 = (i : Int) then e.f2 else ⟨#[]⟩ := by
  rw [h.ins i (by omega), insF]
  obtain ⟨p, v1, v2, v3, v4⟩ := h.vd
  have hf := h.fin e (List.mem_cons_self ..)
  split
  · rfl
  · exact insF_none (fun e' he => by have := vd_all v4 e' he; omega)
theorem delP_del {i : Int} : ∀ {t : List S137} {j : Int}, i ≤ j → delF j (delP i t) = delF j t := by
  intro t
  induction t with
  | nil => intro j _; rfl
  | cons e t ih =>
    intro j hj
    rw [delP]
    split
    · rw [ih hj, delF, if_neg (by omega)]
    · rfl
theorem delP_ins {i sz : Int} : ∀ {t : List S137} {p j : Int}, i < j → Vd sz p t → insF j (delP i t) = insF j t := by
  intro t
  induction t with
  | nil => intro p j _ _; rfl
  | cons e t ih =>
    intro p j hj hv
    obtain ⟨v1, v2, v3, v4⟩ := hv
    rw [delP]
    split
    · rw [ih hj v4, insF, if_neg (by omega)]
    · rfl
theorem delP_vd {i sz : Int} : ∀ {t : List S137} {p : Int}, Vd sz p t → ∃ q, Vd sz q (delP i t) ∧ ∀ e ∈ delP i t, i < e.f1 := by
  intro t
  induction t with
  | nil => intro p _; exact ⟨p, trivial, fun e he => by cases he⟩
  | cons e t ih =>
    intro p hv
    obtain ⟨v1, v2, v3, v4⟩ := hv
    rw [delP]
    split
    · exact ih v4
    · refine ⟨p, ⟨v1, v2, v3, v4⟩, fun e' he => ?_⟩
      rcases List.mem_cons.1 he with rfl | he
      · omega
      · have := vd_all v4 e' he; omega
theorem delB_eq {i sz : Int} : ∀ {t : List S137} {p : Int}, Vd sz p t → (∀ e ∈ t, i < e.f1) → delB i t = delF i t := by
  intro t p hv hf
  cases t with
  | nil => rfl
  | cons e t =>
    obtain ⟨v1, v2, v3, v4⟩ := hv
    have h := hf e (List.mem_cons_self ..)
    rw [delB, delF]
    by_cases c : e.f0 ≤ i
    · rw [if_pos ⟨c, h⟩, decide_eq_true c]
    · rw [if_neg (fun z => c z.1), decide_eq_false c, delF_false (fun e' he => by have := vd_all v4 e' he; omega)]
theorem Cur.step {sz : Int} {i : Nat} {le L : List S137} (h : Cur sz i le L) : Cur sz (i + 1) (delP i le) L ∧ delB i (delP i le) = delF i L := by
  obtain ⟨p, hp⟩ := h.vd
  obtain ⟨q, hq, hf⟩ := delP_vd (i := (i : Int)) hp
  refine ⟨⟨fun j hj => ?_, fun j hj => ?_, ⟨q, hq⟩, fun e he => by have := hf e he; omega⟩, ?_⟩
  · rw [h.del j (by omega), delP_del (by omega)]
  · rw [h.ins j (by omega), delP_ins (by omega) hp]
  · rw [delB_eq hq hf, delP_del (by omega), h.del i (by omega)]
theorem nil_size : (((⟨#[]⟩ : ByteArray).size : Nat) : Int) = 0 := rfl
theorem insP_ok {sz : Int} {i : Nat} {le L : List S137} {mo : Int} {mm om : List S200} (h : Cur sz i le L) (hm : 0 ≤ mo) (hm2 : mo ≤ 1000000000) (hl : mm.length ≤ 1000000000) (hl2 : om.length ≤ 1000000000) (hs : (insF i L).size ≤ 5000) :
    insP i le mo mm om = some (mo + (insF i L).size, mm ++ insO mo (insF i L), om ++ insB (-1) (insF i L)) := by
  cases le with
  | nil =>
    rw [h.ins i (by omega), insF]
    show some (mo, mm, om) = _
    rw [insO_nil, insB_nil, List.append_nil, List.append_nil, nil_size, Int.add_zero]
  | cons e t =>
    have ht := h.text
    unfold insP
    simp only []
    by_cases c : e.f0 = (i : Int)
    · rw [if_pos c] at ht ⊢
      rw [ht] at hs ⊢
      rw [if_pos ⟨hm, by omega, by omega, by omega⟩]
    · rw [if_neg c] at ht ⊢
      rw [ht, insO_nil, insB_nil, List.append_nil, List.append_nil, nil_size, Int.add_zero]
theorem mgI_true (T U : ByteArray) (off : Int) : mgI true T U off = insO off T ++ insB (-1) U := rfl
theorem mgI_false (T U : ByteArray) (off : Int) : mgI false T U off = insB (-1) T ++ insO off U := rfl
theorem mgO_true (T U : ByteArray) (off : Int) : mgO true T U off = off + T.size := rfl
theorem mgO_false (T U : ByteArray) (off : Int) : mgO false T U off = off + U.size := rfl
theorem insT_ok {sz : Int} {i : Nat} {L R : List S137} {s : TS} (hL : Cur sz i s.le L) (hR : Cur sz i s.re R) (h1 : 0 ≤ s.lo) (h2 : s.lo ≤ 900000000) (h3 : 0 ≤ s.ro) (h4 : s.ro ≤ 900000000) (h5 : s.lm.length ≤ 900000000) (h6 : s.rm.length ≤ 900000000) (hs : (insF i L).size ≤ 5000) (hs2 : (insF i R).size ≤ 5000) :
    insT i s = some ⟨s.le, s.re, mgO true (insF i L) (insF i R) s.lo, mgO false (insF i L) (insF i R) s.ro, s.lm ++ mgI true (insF i L) (insF i R) s.lo, s.rm ++ mgI false (insF i L) (insF i R) s.ro⟩ := by
  unfold insT
  rw [insP_ok hL h1 (by omega) (by omega) (by omega) hs, Option.bind_some]
  have e1 : (s.rm ++ insB (-1) (insF i L)).length ≤ 1000000000 := by rw [List.length_append, insB_length]; omega
  have e2 : (s.lm ++ insO s.lo (insF i L)).length ≤ 1000000000 := by rw [List.length_append, insO_length]; omega
  rw [insP_ok hR h3 (by omega) e1 e2 hs2, Option.bind_some, mgI_true, mgI_false, mgO_true, mgO_false, List.append_assoc, List.append_assoc]
theorem runT_ok {S : ByteArray} {L R : List S137} (hS : S.size ≤ 2000) (hLs : ∀ e ∈ L, e.f2.size ≤ 5000) (hRs : ∀ e ∈ R, e.f2.size ≤ 5000) : ∀ (r : List S200) (i : Nat) (s : TS), (trS S).drop i = r → i ≤ S.size → Cur S.size i s.le L → Cur S.size i s.re R → 0 ≤ s.lo → s.lo ≤ i * 5001 → 0 ≤ s.ro → s.ro ≤ i * 5001 → s.lm.length ≤ i * 10001 → s.rm.length ≤ i * 10001 →
    ∃ s', QTexteditTransformEqualsReference.runT S r.length s = some s' ∧ s'.lm = s.lm ++ mgA true L R r i s.lo ∧ s'.rm = s.rm ++ mgA false L R r i s.ro := by
  intro r
  induction r with
  | nil =>
    intro i s hr hi hL hR h1 h2 h3 h4 h5 h6
    have hlen : (trS S).length ≤ i := List.drop_eq_nil_iff.1 hr
    rw [trS_length] at hlen
    obtain rfl : i = S.size := by omega
    have q1 := insF_size (S.size : Int) hLs
    have q2 := insF_size (S.size : Int) hRs
    refine ⟨⟨s.le, s.re, mgO true (insF (S.size : Int) L) (insF (S.size : Int) R) s.lo, mgO false (insF (S.size : Int) L) (insF (S.size : Int) R) s.ro, s.lm ++ mgI true (insF (S.size : Int) L) (insF (S.size : Int) R) s.lo, s.rm ++ mgI false (insF (S.size : Int) L) (insF (S.size : Int) R) s.ro⟩, ?_, rfl, rfl⟩
    exact insT_ok hL hR h1 (by omega) h3 (by omega) (by omega) (by omega) q1 q2
  | cons b r ih =>
    intro i s hr hi hL hR h1 h2 h3 h4 h5 h6
    have hlt : i < S.size := by
      rcases Nat.lt_or_ge i S.size with h | h
      · exact h
      · rw [List.drop_of_length_le (by rw [trS_length]; omega)] at hr; cases hr
    have hlt2 : i < (trS S).length := by rw [trS_length]; exact hlt
    have hr0 := hr
    rw [List.drop_eq_getElem_cons hlt2] at hr
    injection hr with hb hr1
    have hb2 : b = ⟨bt S i, i⟩ := by
      have := trS_get S hlt
      rw [List.getElem?_eq_getElem hlt2, hb] at this
      exact Option.some.inj this
    have hrl : S.size - (r.length + 1) = i := by
      have := congrArg List.length hr0
      rw [List.length_drop, trS_length, List.length_cons] at this
      omega
    have q1 := insF_size (i : Int) hLs
    have q2 := insF_size (i : Int) hRs
    obtain ⟨cL, dL⟩ := hL.step
    obtain ⟨cR, dR⟩ := hR.step
    rw [List.length_cons, QTexteditTransformEqualsReference.runT, hrl, insT_ok hL hR h1 (by omega) h3 (by omega) (by omega) (by omega) q1 q2, Option.bind_some]
    rw [mgA, mgA]
    obtain ⟨T, hT⟩ : ∃ T, insF i L = T := ⟨_, rfl⟩
    obtain ⟨U, hU⟩ : ∃ U, insF i R = U := ⟨_, rfl⟩
    rw [hT] at q1 ⊢
    rw [hU] at q2 ⊢
    have f1 : mgO true T U s.lo = s.lo + T.size := rfl
    have f2 : mgO false T U s.ro = s.ro + U.size := rfl
    have f3 := mgI_length true T U s.lo
    have f4 := mgI_length false T U s.ro
    have g1 : own true L R = L := rfl
    have g2 : own false L R = R := rfl
    rw [g1, g2, hb2]
    unfold addT delT bothT offT
    simp only [dL, dR]
    by_cases c : delF i L = false ∧ delF i R = false
    · have nL : ¬ delF (i : Int) L = true := by rw [c.1]; simp
      have nR : ¬ delF (i : Int) R = true := by rw [c.2]; simp
      rw [if_pos c, if_pos (by simp only [List.length_append]; omega), Option.bind_some, if_pos (by simp only []; omega), Option.bind_some]
      simp only []
      rw [if_neg nL, if_neg nR, if_pos c, if_pos c]
      obtain ⟨s', k1, k2, k3⟩ := ih (i + 1) ⟨delP i s.le, delP i s.re, mgO true T U s.lo + 1, mgO false T U s.ro + 1, s.lm ++ mgI true T U s.lo ++ [⟨bt S i, mgO true T U s.lo⟩], s.rm ++ mgI false T U s.ro ++ [⟨bt S i, mgO false T U s.ro⟩]⟩ hr1 (by omega) cL cR (by simp only []; omega) (by simp only []; omega) (by simp only []; omega) (by simp only []; omega) (by simp only [List.length_append, List.length_singleton]; omega) (by simp only [List.length_append, List.length_singleton]; omega)
      exact ⟨s', k1, by rw [k2]; simp only [List.append_assoc], by rw [k3]; simp only [List.append_assoc]⟩
    · rw [if_neg c, Option.bind_some, if_pos (by simp only []; omega), Option.bind_some]
      simp only []
      rw [if_neg c, if_neg c, List.nil_append, List.nil_append]
      have p1 : (if delF (i : Int) L = true then mgO true T U s.lo else mgO true T U s.lo + 1) ≤ s.lo + T.size + 1 ∧ 0 ≤ (if delF (i : Int) L = true then mgO true T U s.lo else mgO true T U s.lo + 1) := by split <;> omega
      have p2 : (if delF (i : Int) R = true then mgO false T U s.ro else mgO false T U s.ro + 1) ≤ s.ro + U.size + 1 ∧ 0 ≤ (if delF (i : Int) R = true then mgO false T U s.ro else mgO false T U s.ro + 1) := by split <;> omega
      obtain ⟨s', k1, k2, k3⟩ := ih (i + 1) ⟨delP i s.le, delP i s.re, if delF (i : Int) L = true then mgO true T U s.lo else mgO true T U s.lo + 1, if delF (i : Int) R = true then mgO false T U s.ro else mgO false T U s.ro + 1, s.lm ++ mgI true T U s.lo, s.rm ++ mgI false T U s.ro⟩ hr1 (by omega) cL cR (by simp only []; omega) (by simp only []; omega) (by simp only []; omega) (by simp only []; omega) (by simp only [List.length_append]; omega) (by simp only [List.length_append]; omega)
      exact ⟨s', k1, by rw [k2]; simp only [List.append_assoc], by rw [k3]; simp only [List.append_assoc]⟩
end Go.Proofs.Ytbfedkmiekbcmaa.PrTexteditTransformEqualsReference
