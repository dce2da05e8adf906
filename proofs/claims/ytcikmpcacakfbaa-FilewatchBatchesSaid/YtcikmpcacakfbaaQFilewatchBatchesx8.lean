-- Written by gen.py (this repo's wip/), which runs the kit's print.py with more arms. Lean checks it.
import Derived.Test.YtcikmpcacakfbaaQFilewatchBatchesx0
import Derived.Test.YtcikmpcacakfbaaQFilewatchBatchesx2
import Derived.Test.YtcikmpcacakfbaaQFilewatchBatchesx6
namespace Go.Proofs.Ytcikmpcacakfbaa.QFilewatchBatches
open Go.RowKit Go.Proofs.YtcikmpcacakfbaaW.PrintWords Go.Proofs.YtcikmpcacakfbaaW.PrintLast Go.Proofs.YtcikmpcacakfbaaW.PrintMore
attribute [local go_sem] max2_int min2_int max_two min_two max_three min_three max_four min_four   -- for this text's walks alone
set_option linter.unusedVariables false
set_option linter.unusedSimpArgs false

private theorem isEmpty_bne {α : Type} [BEq α] (l : List α) : (l != []) = !l.isEmpty := by cases l <;> rfl

section
open Go.Proofs.Ytcikmpcacakfbaa.Hand
def encI (m : List (ByteArray × Int)) : List (ByteArray × Value) := m.map (fun p => (p.1, Value.int .i64 p.2))
theorem encI_keys (m : List (ByteArray × Int)) : (encI m).map Prod.fst = m.map Prod.fst := by unfold encI; rw [List.map_map]; rfl
theorem encI_set (m : List (ByteArray × Int)) (x : ByteArray) (v : Int) : mset (encI m) x (.int .i64 v) = encI (mset m x v) := (mset_map (fun v : Int => Value.int .i64 v) m x v).symm
theorem encI_del (m : List (ByteArray × Int)) (x : ByteArray) : mdel (encI m) x = encI (mdel m x) := (mdel_map (fun v : Int => Value.int .i64 v) m x).symm
def fwFiles (l : List ByteArray) : List (ByteArray × Int) := l.foldl (fun m x => mset m x 1) []
def fwStep (m : List (ByteArray × Int)) (e : S58) : List (ByteArray × Int) := if e.f2 = 1 then mset m e.f1 1 else if e.f2 = 2 then mset m e.f1 1 else if e.f2 = 3 then mdel m e.f1 else m
def fwAll (l : List ByteArray) (es : List S58) : List (ByteArray × Int) := es.foldl fwStep (fwFiles l)
def applyR (l : List ByteArray) (es : List S58) : List ByteArray := sortS ((fwAll l es).map Prod.fst)
theorem fwFiles_snoc (l : List ByteArray) (x : ByteArray) : fwFiles (l ++ [x]) = mset (fwFiles l) x 1 := by unfold fwFiles; rw [List.foldl_append]; rfl
theorem fwAll_snoc (l : List ByteArray) (es : List S58) (e : S58) : fwAll l (es ++ [e]) = fwStep (fwAll l es) e := by unfold fwAll; rw [List.foldl_append]; rfl
theorem mdel_sub {β : Type} {m : List (ByteArray × β)} {x : ByteArray} : (mdel m x).Sublist m := by
  induction m with
  | nil => exact List.Sublist.slnil
  | cons p t ih =>
    rw [mdel]
    by_cases c : p.1 = x
    · rw [if_pos c]; exact List.sublist_cons_self _ _
    · rw [if_neg c]; exact ih.cons_cons _
/-- What a map of files bears. -/
structure FwM (m : List (ByteArray × Int)) (n : Nat) : Prop where
  nodup : (m.map Prod.fst).Nodup
  len : m.length ≤ n
  sizes : ∀ p ∈ m, p.1.size ≤ maxLen
theorem FwM.set {m : List (ByteArray × Int)} {n : Nat} (h : FwM m n) {x : ByteArray} (v : Int) (hx : x.size ≤ maxLen) : FwM (mset m x v) (n + 1) :=
  ⟨keys_nodup x v h.nodup, by have := mset_len m x v; have := h.len; omega, fun p hp => by
    rcases mem_keys hp with rfl | hp
    · exact hx
    · exact h.sizes p hp⟩
theorem FwM.del {m : List (ByteArray × Int)} {n : Nat} (h : FwM m n) (x : ByteArray) : FwM (mdel m x) n :=
  ⟨h.nodup.sublist (mdel_sub.map _), Nat.le_trans mdel_sub.length_le h.len, fun p hp => h.sizes p (mdel_sub.subset hp)⟩
theorem FwM.mono {m : List (ByteArray × Int)} {n k : Nat} (h : FwM m n) (hk : n ≤ k) : FwM m k := ⟨h.nodup, Nat.le_trans h.len hk, h.sizes⟩
theorem fwFiles_is (l : List ByteArray) (h : ∀ x ∈ l, x.size ≤ maxLen) : FwM (fwFiles l) l.length := by
  revert h
  refine snoc_ind (P := fun l => (∀ x ∈ l, x.size ≤ maxLen) → FwM (fwFiles l) l.length) (fun _ => ⟨List.nodup_nil, Nat.le_refl _, fun p hp => by cases hp⟩) (fun l x ih h => ?_) l
  rw [fwFiles_snoc, List.length_append]
  exact (ih (fun y hy => h y (List.mem_append.2 (.inl hy)))).set 1 (h x (by simp))
theorem fwAll_is (l : List ByteArray) (es : List S58) (h : ∀ x ∈ l, x.size ≤ maxLen) (h' : ∀ e ∈ es, e.f1.size ≤ maxLen) : FwM (fwAll l es) (l.length + es.length) := by
  revert h'
  refine snoc_ind (P := fun es => (∀ e ∈ es, e.f1.size ≤ maxLen) → FwM (fwAll l es) (l.length + es.length)) (fun _ => fwFiles_is l h) (fun es e ih h' => ?_) es
  have hi := ih (fun y hy => h' y (List.mem_append.2 (.inl hy)))
  have he := h' e (by simp)
  rw [fwAll_snoc, List.length_append, fwStep]
  split
  · exact (hi.set 1 he).mono (by simp; omega)
  · split
    · exact (hi.set 1 he).mono (by simp; omega)
    · split
      · exact (hi.del e.f1).mono (by simp)
      · exact hi.mono (by simp)
set_option maxRecDepth 100000 in
set_option maxHeartbeats 16000000 in
theorem apply_calls (A0 : Option Addr) (c0 : Nat) (l0 : List ByteArray) (A1 : Option Addr) (c1 : Nat) (l1 : List S58) (w : World) (hr0 : Kd.C Kd.string w A0 l0.length l0) (hr1 : Kd.C k58 w A1 l1.length l1) (hl0 : l0.length < 100000) (hl1 : l1.length < 100000) (hs0 : ∀ x ∈ l0, x.size ≤ maxLen) (hs1 : ∀ e ∈ l1, e.f1.size ≤ maxLen) :
    Calls Try.prog 24 #[.slice A0 l0.length c0, .slice A1 l1.length c1] w fun e w' => ∃ v, e = .returned v ∧ Kd.R Kd.string 9 w' w.heap.size (fun _ => True) v (applyR l0 l1) ∧ Below w.heap.size w w' := by
  have HR0 := Aside0.mk hr0
  have HR1 := Aside0.mk hr1
  have HL0 := Aside0.mk hl0
  have HL1 := Aside0.mk hl1
  have HM := Aside0.mk (fwAll_is l0 l1 hs0 hs1)
  clear hr0 hr1 hl0 hl1 hs0 hs1
  have hmm := @run_makeMap Try.prog
  go_enter Try.func24, Try.ntmps24
  go_wp2
  go_loopg [13] l0.length (fun kq v13 W => ∃ i : Nat, v13 = .int .i64 (i : Int) ∧ kq + i = l0.length ∧ Aside0 (MapIs Value.string W w.heap.size (encI (fwFiles (l0.take i))) ∧ Below w.heap.size w W))
  case atStart => exact ⟨0, rfl, by omega, ⟨MapIs.new w, below_alloc (Below.refl _ _) _⟩⟩
  case round =>
    obtain ⟨i, rfl, hi, hA⟩ := hrel
    cases gk with
    | zero =>
      have HIL := Aside0.mk (show i = l0.length by omega)
      have hb : decide ((i : Int) < (l0.length : Int)) = false := decide_eq_false (by omega)
      have hb' : decide (i < l0.length) = false := decide_eq_false (by omega)
      clear hi
      have hmi := hA.out
      rw [HIL.out, List.take_length] at hmi
      have HMI := Aside0.mk hmi
      clear hmi hA
      obtain ⟨Wl, rfl⟩ : ∃ Wl, Wl = wr := ⟨_, rfl⟩
      go_wp2
      go_loopg [22] l1.length (fun kq v22 W => ∃ i : Nat, v22 = .int .i64 (i : Int) ∧ kq + i = l1.length ∧ Aside0 (MapIs Value.string W w.heap.size (encI (fwAll l0 (l1.take i))) ∧ Below w.heap.size w W))
      case atStart => exact ⟨0, rfl, by omega, ⟨HMI.out⟩⟩
      case round =>
        obtain ⟨i, rfl, hi, hA⟩ := hrel
        cases gk with
        | zero =>
          have HIL := Aside0.mk (show i = l1.length by omega)
          have c0 : decide ((i : Int) < (l1.length : Int)) = false := decide_eq_false (by omega)
          have c0' : decide (i < l1.length) = false := decide_eq_false (by omega)
          clear hi
          have hmi := hA.out
          rw [HIL.out, List.take_length] at hmi
          have HMI := Aside0.mk hmi
          clear hmi hA
          have HS := Aside0.mk (sortedB_calls HMI.out.1 (by rw [encI_keys]; exact HM.out.nodup) (by unfold encI; rw [List.length_map]; have h1 := HM.out.len; have h2 := HL0.out; have h3 := HL1.out; omega) (fun p hp => by
            unfold encI at hp
            obtain ⟨q, hq, rfl⟩ := List.mem_map.1 hp
            exact HM.out.sizes q hq))
          go_wp2_with (first
            | (go_at_call 52; refine (keysB_calls _ _).mono ?_; rintro e w9 ⟨rfl, rfl⟩)
            | (go_at_call 51; refine HS.out.mono ?_; rintro e w9 ⟨v9, rfl, ho9, hb9⟩; have HO9 := Aside0.mk ho9; have HB9 := Aside0.mk hb9; clear ho9 hb9))
          go_ret
          have ho := HO9.out
          rw [encI_keys] at ho
          exact ⟨_, rfl, Kd.R_lower ho (by have := HMI.out.2.size; omega), HMI.out.2.trans ((below_alloc (Below.refl _ _) _).mono HMI.out.2.size |>.trans (HB9.out.mono (by have := HMI.out.2.size; omega)))⟩
        | succ k2 =>
          have c0 : decide ((i : Int) < (l1.length : Int)) = true := decide_eq_true (by omega)
          have c0' : decide (i < l1.length) = true := decide_eq_true (by omega)
          have hil : i < l1.length := by omega
          obtain ⟨x, hx⟩ : ∃ x, rd_T58 l1 (i : Int) = x := ⟨_, rfl⟩
          obtain ⟨ad, rfl, x0, x1, x2⟩ := at_T58 (Kd.C_below HR1.out hA.out.2) (i : Int) (by omega) (by omega)
          rw [hx, Int.toNat_natCast] at x0 x1 x2
          have r0 := eq_true (show (0 : Int) ≤ (i : Int) by omega)
          have r1 := eq_true (show (i : Int) < (l1.length : Int) by omega)
          have r2 := eq_true hil
          have HST := Aside0.mk (show fwAll l0 (l1.take (i + 1)) = fwStep (fwAll l0 (l1.take i)) x by
            rw [← fwAll_snoc, List.take_add_one, List.getElem?_eq_getElem hil]
            congr 2
            rw [← hx]; unfold rd_T58; rw [Int.toNat_natCast, List.getD_eq_getElem?_getD, List.getElem?_eq_getElem hil]; rfl)
          clear hil hx
          go_upto_region 10 with (fail)
          obtain ⟨W5, hW5⟩ : ∃ W5, wr.alloc (.cells #[.int .i64 x.f0, .string x.f1, .int .i64 x.f2] 58) = W5 := ⟨_, rfl⟩
          have hb5 : Below wr.heap.size wr W5 := by rw [← hW5]; exact below_alloc (Below.refl _ _) _
          have hk5 : W5.heap[wr.heap.size]? = some (.cells #[.int .i64 x.f0, .string x.f1, .int .i64 x.f2] 58 (0, 0)) := by rw [← hW5]; exact hb_new _ _
          rw [hW5]
          clear hW5 r0 r1 r2 c0 c0' x0 x1 x2
          have x0 : W5.cell? ⟨wr.heap.size, 0, none⟩ = some (.int .i64 x.f0) := (cells_of_blk hk5 0).trans rfl
          have x1 : W5.cell? ⟨wr.heap.size, 1, none⟩ = some (.string x.f1) := (cells_of_blk hk5 1).trans rfl
          have x2 : W5.cell? ⟨wr.heap.size, 2, none⟩ = some (.int .i64 x.f2) := (cells_of_blk hk5 2).trans rfl
          have HMI5 := Aside0.mk (hA.out.1.below hb5 hA.out.1.lt)
          have HB5 := Aside0.mk (hA.out.2.trans (hb5.mono hA.out.2.size))
          have HI := Aside0.mk (show wrap64 ((i : Int) + 1) = ((i + 1 : Nat) : Int) by have := HL1.out; unfold wrap64; omega)
          clear hb5 hk5
          by_cases k1 : x.f2 = 1
          · have d1 : (x.f2 == 1) = true := by simpa using k1
            have HF := Aside0.mk (show fwStep (fwAll l0 (l1.take i)) x = mset (fwAll l0 (l1.take i)) x.f1 1 by unfold fwStep; rw [if_pos k1])
            obtain ⟨W6, hrun, hm6, hg6⟩ := HMI5.out.update (keyLaw_string Try.underlying9) Try.underlying83 x.f1 (.int .i64 1)
            have HM6 := Aside0.mk hm6
            have HB6 := Aside0.mk (show Below w.heap.size w W6 from HB5.out.trans ((Chg.of_grown (S := fun k => k = w.heap.size) hg6 (fun k e => (Option.some.inj e).symm)).to_below (fun k _ e => by omega) HB5.out.size))
            clear hm6 hg6 k1
            go_wp2
            go_roundg k2
            case measure => omega
            case rel => exact ⟨i + 1, by rw [HI.out], by omega, ⟨by rw [HST.out, HF.out, ← encI_set]; exact HM6.out, HB6.out⟩⟩
          · have d1 : (x.f2 == 1) = false := by simpa using k1
            by_cases k3 : x.f2 = 2
            · have d2 : (x.f2 == 2) = true := by simpa using k3
              have HF := Aside0.mk (show fwStep (fwAll l0 (l1.take i)) x = mset (fwAll l0 (l1.take i)) x.f1 1 by unfold fwStep; rw [if_neg k1, if_pos k3])
              obtain ⟨W6, hrun, hm6, hg6⟩ := HMI5.out.update (keyLaw_string Try.underlying9) Try.underlying83 x.f1 (.int .i64 1)
              have HM6 := Aside0.mk hm6
              have HB6 := Aside0.mk (show Below w.heap.size w W6 from HB5.out.trans ((Chg.of_grown (S := fun k => k = w.heap.size) hg6 (fun k e => (Option.some.inj e).symm)).to_below (fun k _ e => by omega) HB5.out.size))
              clear hm6 hg6 k1 k3
              go_wp2
              go_roundg k2
              case measure => omega
              case rel => exact ⟨i + 1, by rw [HI.out], by omega, ⟨by rw [HST.out, HF.out, ← encI_set]; exact HM6.out, HB6.out⟩⟩
            · have d2 : (x.f2 == 2) = false := by simpa using k3
              by_cases k4 : x.f2 = 3
              · have d3 : (x.f2 == 3) = true := by simpa using k4
                have HF := Aside0.mk (show fwStep (fwAll l0 (l1.take i)) x = mdel (fwAll l0 (l1.take i)) x.f1 by unfold fwStep; rw [if_neg k1, if_neg k3, if_pos k4])
                obtain ⟨W6, hrun, hm6, hg6⟩ := HMI5.out.drop (keyLaw_string Try.underlying9) Try.underlying83 x.f1 0
                have HM6 := Aside0.mk hm6
                have HB6 := Aside0.mk (show Below w.heap.size w W6 from HB5.out.trans ((Chg.of_grown (S := fun k => k = w.heap.size) hg6 (fun k e => (Option.some.inj e).symm)).to_below (fun k _ e => by omega) HB5.out.size))
                clear hm6 hg6 k1 k3 k4
                go_wp2
                go_roundg k2
                case measure => omega
                case rel => exact ⟨i + 1, by rw [HI.out], by omega, ⟨by rw [HST.out, HF.out, ← encI_del]; exact HM6.out, HB6.out⟩⟩
              · have d3 : (x.f2 == 3) = false := by simpa using k4
                have HF := Aside0.mk (show fwStep (fwAll l0 (l1.take i)) x = fwAll l0 (l1.take i) by unfold fwStep; rw [if_neg k1, if_neg k3, if_neg k4])
                clear k1 k3 k4
                go_wp2
                go_roundg k2
                case measure => omega
                case rel => exact ⟨i + 1, by rw [HI.out], by omega, ⟨by rw [HST.out, HF.out]; exact HMI5.out, HB5.out⟩⟩
    | succ k2 =>
      have hb : decide ((i : Int) < (l0.length : Int)) = true := decide_eq_true (by omega)
      have hb' : decide (i < l0.length) = true := decide_eq_true (by omega)
      have hil : i < l0.length := by omega
      obtain ⟨x, hx⟩ : ∃ x, rdOf ByteArray.empty l0 (i : Int) = x := ⟨_, rfl⟩
      obtain ⟨ad, rfl, x0⟩ := Kd.at_string (Kd.C_below HR0.out hA.out.2) (i : Int) (by omega) (by omega)
      rw [hx, Int.toNat_natCast] at x0
      have r0 := eq_true (show (0 : Int) ≤ (i : Int) by omega)
      have r1 := eq_true (show (i : Int) < (l0.length : Int) by omega)
      have r2 := eq_true hil
      have HST := Aside0.mk (show fwFiles (l0.take (i + 1)) = mset (fwFiles (l0.take i)) x 1 by
        rw [← fwFiles_snoc, List.take_add_one, List.getElem?_eq_getElem hil]
        congr 2
        rw [← hx]; unfold rdOf; rw [Int.toNat_natCast, List.getD_eq_getElem?_getD, List.getElem?_eq_getElem hil]; rfl)
      clear hil hx
      obtain ⟨W6, hrun, hm6, hg6⟩ := hA.out.1.update (keyLaw_string Try.underlying9) Try.underlying83 x (.int .i64 1)
      have HM6 := Aside0.mk hm6
      have HB6 := Aside0.mk (show Below w.heap.size w W6 from hA.out.2.trans ((Chg.of_grown (S := fun k => k = w.heap.size) hg6 (fun k e => (Option.some.inj e).symm)).to_below (fun k _ e => by omega) hA.out.2.size))
      clear hm6 hg6
      go_wp2
      go_roundg k2
      case measure => omega
      case rel => exact ⟨i + 1, by congr 1; have := HL0.out; unfold wrap64; omega, by omega, ⟨by
        rw [HST.out, ← encI_set]
        exact HM6.out, HB6.out⟩⟩
end
def filewatch_Apply.f (l0 : List ByteArray) (l1 : List S58) : Option (List ByteArray) := if l0.length < 100000 ∧ l1.length < 100000 ∧ (∀ x ∈ l0, x.size ≤ maxLen) ∧ (∀ e ∈ l1, e.f1.size ≤ maxLen) then some (applyR l0 l1) else none
theorem filewatch_Apply.calls (A0 : Option Addr) (c0 : Nat) (l0 : List ByteArray) (A1 : Option Addr) (c1 : Nat) (l1 : List (S58)) (r : List ByteArray) (w : World) (hr0 : Kd.C Kd.string w A0 l0.length l0) (hc0 : l0.length ≤ c0) (hr1 : Kd.C k58 w A1 l1.length l1) (hc1 : l1.length ≤ c1) (h : filewatch_Apply.f l0 l1 = some r) :
    Calls Try.prog 24 #[.slice A0 l0.length c0, .slice A1 l1.length c1] w fun e w' => ∃ v0_ : Value, e = .returned (v0_) ∧ Kd.R Kd.string 9 w' w.heap.size (fun _ => True) v0_ r ∧ Below w.heap.size w w' := by
  unfold filewatch_Apply.f at h
  split at h
  case isFalse => cases h
  next hl =>
  obtain rfl := Option.some.inj h
  exact apply_calls A0 c0 l0 A1 c1 l1 w hr0 hr1 hl.1 hl.2.1 hl.2.2.1 hl.2.2.2

/-! ### glossatorref3_Files: function 25 -/
mutual
def glossatorref3_Files.l0 : Nat → List ByteArray → List (S58) → Int → Int → Option (List ByteArray)
  | 0, _, _, _, _ => none
  | k + 1, x5, x13, x14, x15 => if x15 < x14 then (if 0 ≤ x15 then (if x15 < (x13.length : Int) then (glossatorref3_Files.l1 k ([] : List ByteArray) x13 x14 x15 x5 (x5.length : Int) 0 ((rd_T58 x13 x15).f0) ((rd_T58 x13 x15).f1) ((rd_T58 x13 x15).f2)) else (none)) else (none)) else (some x5)
def glossatorref3_Files.l1 : Nat → List ByteArray → List (S58) → Int → Int → List ByteArray → Int → Int → Int → ByteArray → Int → Option (List ByteArray)
  | 0, _, _, _, _, _, _, _, _, _, _ => none
  | k + 1, x8, x13, x14, x15, x19, x20, x21, x170000, x170001, x170002 => if x21 < x20 then (if 0 ≤ x21 then (if x21 < (x19.length : Int) then (if (rdOf ByteArray.empty x19 x21).toList = x170001.toList then (if x170002 = 3 then (glossatorref3_Files.l1 k x8 x13 x14 x15 x19 x20 (wrap64 (x21 + 1)) x170000 x170001 x170002) else (if x8.length < 8796093022208 then (glossatorref3_Files.l1 k (x8 ++ [rdOf ByteArray.empty x19 x21]) x13 x14 x15 x19 x20 (wrap64 (x21 + 1)) x170000 x170001 x170002) else (none))) else (if x8.length < 8796093022208 then (glossatorref3_Files.l1 k (x8 ++ [rdOf ByteArray.empty x19 x21]) x13 x14 x15 x19 x20 (wrap64 (x21 + 1)) x170000 x170001 x170002) else (none))) else (none)) else (none)) else (if x170002 = 1 then (if x8.length < 8796093022208 then ((glossatorref3_SortStrings.f (x8 ++ [x170001])).bind fun t180 => (glossatorref3_Files.l0 k t180 x13 x14 (wrap64 (x15 + 1)))) else (none)) else (if x170002 = 2 then (if x8.length < 8796093022208 then ((glossatorref3_SortStrings.f (x8 ++ [x170001])).bind fun t186 => (glossatorref3_Files.l0 k t186 x13 x14 (wrap64 (x15 + 1)))) else (none)) else (glossatorref3_Files.l0 k x8 x13 x14 (wrap64 (x15 + 1)))))
end
def glossatorref3_Files.f (k : Nat) (l0 : List ByteArray) (l1 : List (S58)) : Option (List ByteArray) := (glossatorref3_SortStrings.f l0).bind fun t165 => (glossatorref3_Files.l0 k t165 l1 (l1.length : Int) 0)
theorem glossatorref3_Files.mono_l : ∀ k, (∀ y0 y1 y2 y3, LeO (glossatorref3_Files.l0 k y0 y1 y2 y3) (glossatorref3_Files.l0 (k + 1) y0 y1 y2 y3)) ∧ (∀ y0 y1 y2 y3 y4 y5 y6 y7 y8 y9, LeO (glossatorref3_Files.l1 k y0 y1 y2 y3 y4 y5 y6 y7 y8 y9) (glossatorref3_Files.l1 (k + 1) y0 y1 y2 y3 y4 y5 y6 y7 y8 y9))
  | 0 => ⟨fun _ _ _ _ r h => by simp [glossatorref3_Files.l0] at h, fun _ _ _ _ _ _ _ _ _ _ r h => by simp [glossatorref3_Files.l1] at h⟩
  | k + 1 => by
    obtain ⟨ih0, ih1⟩ := glossatorref3_Files.mono_l k
    refine ⟨?_, ?_⟩
    · intro y0 y1 y2 y3
      unfold glossatorref3_Files.l0
      repeat' first
      | (with_reducible exact ih0 _ _ _ _)
      | (with_reducible exact ih1 _ _ _ _ _ _ _ _ _ _)
      | (with_reducible exact LeO.refl _)
      | (with_reducible exact LeO.none _)
      | (with_reducible refine LeO.ite ?_ ?_)
      | (with_reducible refine LeO.bind ?_ (fun _ => ?_))
      | exact ih0 _ _ _ _
      | exact ih1 _ _ _ _ _ _ _ _ _ _
      | exact LeO.none _
      | refine LeO.ite ?_ ?_
      | refine LeO.bind ?_ (fun _ => ?_)
    · intro y0 y1 y2 y3 y4 y5 y6 y7 y8 y9
      unfold glossatorref3_Files.l1
      repeat' first
      | (with_reducible exact ih0 _ _ _ _)
      | (with_reducible exact ih1 _ _ _ _ _ _ _ _ _ _)
      | (with_reducible exact LeO.refl _)
      | (with_reducible exact LeO.none _)
      | (with_reducible refine LeO.ite ?_ ?_)
      | (with_reducible refine LeO.bind ?_ (fun _ => ?_))
      | exact ih0 _ _ _ _
      | exact ih1 _ _ _ _ _ _ _ _ _ _
      | exact LeO.none _
      | refine LeO.ite ?_ ?_
      | refine LeO.bind ?_ (fun _ => ?_)
theorem glossatorref3_Files.mono : ∀ a0 a1 k, LeO (glossatorref3_Files.f k a0 a1) (glossatorref3_Files.f (k + 1) a0 a1) := by
  intro a0 a1 k
  obtain ⟨ih0, ih1⟩ := glossatorref3_Files.mono_l k
  unfold glossatorref3_Files.f
  repeat' first
      | (with_reducible exact ih0 _ _ _ _)
      | (with_reducible exact ih1 _ _ _ _ _ _ _ _ _ _)
      | (with_reducible exact LeO.refl _)
      | (with_reducible exact LeO.none _)
      | (with_reducible refine LeO.ite ?_ ?_)
      | (with_reducible refine LeO.bind ?_ (fun _ => ?_))
      | exact ih0 _ _ _ _
      | exact ih1 _ _ _ _ _ _ _ _ _ _
      | exact LeO.none _
      | refine LeO.ite ?_ ?_
      | refine LeO.bind ?_ (fun _ => ?_)
set_option maxHeartbeats 8000000 in
set_option maxRecDepth 100000 in
theorem glossatorref3_Files.calls (k : Nat) (A0 : Option Addr) (c0 : Nat) (l0 : List ByteArray) (A1 : Option Addr) (c1 : Nat) (l1 : List (S58)) (r : List ByteArray) (w : World) (hr0 : Kd.C Kd.string w A0 l0.length l0) (hc0 : l0.length ≤ c0) (hr1 : Kd.C k58 w A1 l1.length l1) (hc1 : l1.length ≤ c1) (h : glossatorref3_Files.f k l0 l1 = some r) :
    Calls Try.prog 25 #[.slice A0 l0.length c0, .slice A1 l1.length c1] w fun e w' => ∃ v0_ : Value, e = .returned (v0_) ∧ Kd.R Kd.string 9 w' w.heap.size (fun _ => True) v0_ r ∧ Below w.heap.size w w' := by
  have hu58 := Try.underlying58
  have HR0 := Aside0.mk hr0
  have HC0 := Aside0.mk hc0
  clear hr0 hc0
  have HR1 := Aside0.mk hr1
  have HC1 := Aside0.mk hc1
  clear hr1 hc1
  have HB := Aside0.mk (Below.refl w.heap.size w)
  have H : ((glossatorref3_SortStrings.f l0).bind fun t165 => (glossatorref3_Files.l0 k t165 l1 (l1.length : Int) 0)) = some r := h
  clear h
  replace H := Option.bind_eq_some_iff.mp H
  obtain ⟨t165, A30, H⟩ := H
  replace H : (glossatorref3_Files.l0 k t165 l1 (l1.length : Int) 0) = some r := H
  have A3 := Aside0.mk A30
  clear A30
  have H' := Aside0.mk H
  clear H
  go_enter Try.func25, Try.ntmps25
  go_wp2_with (first | ((with_reducible refine gate_callee (f := 38) rfl ?_); refine goesL_ (some 12) rfl rfl Try.func38 (by kernel_rfl) rfl #[.slice A0 l0.length c0] rfl (by (try simp only [List.map_toArray, List.map_cons, List.map_nil]); first | done | rfl | (simp only [List.length_drop, List.length_take]; rfl)) ?_; (with_reducible refine (glossatorref3_SortStrings.calls _ _ l0 t165 _ ?side1 ?side2 A3.out).mono ?_); (case side1 => repeat (first | exact HR0.out | (with_reducible refine Kd.C_alloc ?_ _) | (with_reducible refine Kd.C_drewN ?_ _) | (with_reducible refine Kd.C_drew ?_))); (case side2 => exact HC0.out); rintro e w4 ⟨v166, rfl, ho0, hb⟩; refine ⟨_, rfl, ?_⟩; have n0_ := Aside0.mk (Kd.R_lower ho0 (below_size (by repeat (first | (with_reducible first | exact HB.out | apply below_alloc | apply pw_below_drewN | apply below_drew1) | exact HB.out)))); have n1_ := Aside0.mk (below_step (by repeat (first | (with_reducible first | exact HB.out | apply below_alloc | apply pw_below_drewN | apply below_drew1) | exact HB.out)) hb); clear HB; have HO167 := n0_; have HB := n1_; clear n0_ n1_; (try clear hb); (try clear hb2); (try clear hk); (try clear hi); (try clear ho0)))
  go_loopg [5, 15] k (fun kq v5 v15 w' => ∃ (x5_1 : List ByteArray) (x15_1 : Int), v15 = .int .i64 x15_1 ∧ Aside0 (glossatorref3_Files.l0 kq x5_1 l1 (l1.length : Int) x15_1 = some r) ∧ Aside0 (kq ≤ k) ∧ Aside0 (Kd.R Kd.string 9 w' w.heap.size (fun _ => True) v5 x5_1) ∧ Aside0 (Below w.heap.size w w'))
  case atStart => exact ⟨(t165), (0), (by first | rfl | (simp; done) | (simp [*]; done) | (simp [isEmpty_bne]; done)), H', ⟨Nat.le_refl _⟩, ⟨by (with_reducible repeat (first | apply Kd.R_alloc | apply Kd.R_drewN | apply Kd.R_drew)); exact HO167.out⟩, ⟨by repeat (first | (with_reducible first | exact HB.out | apply below_alloc | apply pw_below_drewN | apply below_drew1) | exact HB.out)⟩⟩
  case round =>
    clear H'
    try clear c1
    try clear c2
    try clear p2
    try clear c3
    obtain ⟨x5_1, x15_1, rfl, HA, HK1, HO_5, HB⟩ := hrel
    cases gk with
    | zero => exact absurd HA.out (by simp [glossatorref3_Files.l0])
    | succ k1 =>
      have H := HA.out
      clear HA
      simp only [glossatorref3_Files.l0] at H
      by_cases c5 : x15_1 < (l1.length : Int)
      · rw [if_pos c5] at H
        have c5b0 : decide (x15_1 < (l1.length : Int)) = true := decide_eq_true c5
        clear c5
        by_cases c6 : 0 ≤ x15_1
        · rw [if_pos c6] at H
          have c6b0 : decide (0 ≤ x15_1) = true := decide_eq_true c6
          clear c6
          by_cases c7 : x15_1 < (l1.length : Int)
          · rw [if_pos c7] at H
            have c7b0 : decide (x15_1 < (l1.length : Int)) = true := decide_eq_true c7
            clear c7
            have H' := Aside0.mk H
            clear H
            have p168 : 0 ≤ (x15_1 : Int) := of_decide_eq_true (by first | (with_reducible assumption) | assumption)
            have q168 : x15_1 < (l1.length : Int) := of_decide_eq_true (by first | (with_reducible assumption) | assumption)
            obtain ⟨ad168, e168, hx168_0, hx168_1, hx168_2⟩ := at_T58 HR1.out x15_1 p168 q168
            cases e168
            replace hx168_0 := (HB.out.cell (World.block_lt_of_cell? w _ hx168_0)).trans hx168_0
            replace hx168_1 := (HB.out.cell (World.block_lt_of_cell? w _ hx168_1)).trans hx168_1
            replace hx168_2 := (HB.out.cell (World.block_lt_of_cell? w _ hx168_2)).trans hx168_2
            replace p168 := eq_true p168
            replace q168 := eq_true q168
            go_wp2_with (first | ((with_reducible refine gate_dst (N := 7) rfl ?_); refine box_event ?hg (N := 7) ?hd (cs := #[.int .i64 0, .string (⟨#[]⟩ : ByteArray), .int .i64 0]) (t := 58) ?hr ?_; (case hd => rfl); (case hg => rfl); (case hr => first | (go_simp; done) | (go_simp; rfl)); intro gb169 hg w8 hbox hb; have n0_ := Aside0.mk (Kd.R_below (by (with_reducible repeat (first | apply Kd.R_alloc | apply Kd.R_drewN | apply Kd.R_drew)); exact HO_5.out) hb); have n1_ := Aside0.mk (below_step (by repeat (first | (with_reducible first | exact HB.out | apply below_alloc | apply pw_below_drewN | apply below_drew1) | exact HB.out)) hb); have n2_ := Aside0.mk (hbox); have n3_ := Aside0.mk ((by rw [hg]; exact (below_size (by repeat (first | (with_reducible first | exact HB.out | apply below_alloc | apply pw_below_drewN | apply below_drew1) | exact HB.out))) : w.heap.size ≤ gb169)); have n4_ := Aside0.mk ((by rw [hg]; exact (below_size (by repeat (first | (with_reducible first | exact HB.out | apply below_alloc | apply pw_below_drewN | apply below_drew1) | exact HB.out))) : w.heap.size ≤ gb169)); clear HO_5; clear HB; have HO_5 := n0_; have HB := n1_; have BK169 := n2_; have GW169 := n3_; have GE169 := n4_; clear n0_ n1_ n2_ n3_ n4_; clear hb hbox hg; have hcz9_0 : w8.cell? ⟨gb169, 0, none⟩ = some (.int .i64 0) := (blk_cell BK169.out 0).trans rfl; have hcz9_1 : w8.cell? ⟨gb169, 1, none⟩ = some (.string (⟨#[]⟩ : ByteArray)) := (blk_cell BK169.out 1).trans rfl; have hcz9_2 : w8.cell? ⟨gb169, 2, none⟩ = some (.int .i64 0) := (blk_cell BK169.out 2).trans rfl; have hfz9_0 := blk_frozen BK169.out 0; have hfz9_1 := blk_frozen BK169.out 1; have hfz9_2 := blk_frozen BK169.out 2; obtain ⟨Ao10, co10, eo10⟩ := Kd.R_slice HO_5.out; subst eo10))
            go_loopg [8, 21] k1 (fun kq v8 v21 w' => ∃ (x8_2 : List ByteArray) (x21_2 : Int), v21 = .int .i64 x21_2 ∧ Aside0 (glossatorref3_Files.l1 kq x8_2 l1 (l1.length : Int) x15_1 x5_1 (x5_1.length : Int) x21_2 ((rd_T58 l1 x15_1).f0) ((rd_T58 l1 x15_1).f1) ((rd_T58 l1 x15_1).f2) = some r) ∧ Aside0 (kq ≤ k1) ∧ Aside0 (Kd.R Kd.string 9 w' w.heap.size (fun k_ => some k_ ≠ ((.slice Ao10 x5_1.length co10) : Value).ownBlock) v8 x8_2) ∧ Aside0 (Kd.R Kd.string 9 w' w.heap.size (fun k_ => some k_ ≠ (v8 : Value).ownBlock) (.slice Ao10 x5_1.length co10) x5_1) ∧ Aside0 (w'.heap[gb169]? = some (.cells #[.int .i64 ((rd_T58 l1 x15_1).f0), .string ((rd_T58 l1 x15_1).f1), .int .i64 ((rd_T58 l1 x15_1).f2)] 58 (0, 0))) ∧ Aside0 (Below w.heap.size w w'))
            case atStart => exact ⟨(([] : List ByteArray)), (0), (by first | rfl | (simp; done) | (simp [*]; done) | (simp [isEmpty_bne]; done)), H', ⟨Nat.le_refl _⟩, ⟨by first | exact Kd.R_nil _ _ _ _ _ | exact Kd.N_nil _ _ _ _ _ | exact Kd.V_nil _ _ _ _ _ | exact Kd.Q_nil _ _ _ _ _ | exact Kd.S_nil _ _ _ _ _⟩, ⟨by (with_reducible repeat (first | apply Kd.R_alloc | apply Kd.R_drewN | apply Kd.R_drew)); exact Kd.R_mono (Kd.R_far (p := ⟨gb169, 2, none⟩) (Kd.R_far (p := ⟨gb169, 1, none⟩) (Kd.R_far (p := ⟨gb169, 0, none⟩) (Kd.R_types HO_5.out BK169.out (by decide)) (fun _ hk => hk.2) (.int .i64 ((rd_T58 l1 x15_1).f0))) (fun _ hk => hk.2) (.string ((rd_T58 l1 x15_1).f1))) (fun _ hk => hk.2) (.int .i64 ((rd_T58 l1 x15_1).f2))) (fun _ hk => (by simp [Value.ownBlock]))⟩, ⟨by (with_reducible repeat (first | refine blk_drewN ?_ _ | refine blk_drew ?_ | refine blk_alloc ?_ _)); refine blk_put (cs := #[.int .i64 ((rd_T58 l1 x15_1).f0), .string ((rd_T58 l1 x15_1).f1), .int .i64 0]) ?_ 2 _ rfl; (with_reducible repeat (first | refine blk_drewN ?_ _ | refine blk_drew ?_ | refine blk_alloc ?_ _)); refine blk_put (cs := #[.int .i64 ((rd_T58 l1 x15_1).f0), .string (⟨#[]⟩ : ByteArray), .int .i64 0]) ?_ 1 _ rfl; (with_reducible repeat (first | refine blk_drewN ?_ _ | refine blk_drew ?_ | refine blk_alloc ?_ _)); refine blk_put (cs := #[.int .i64 0, .string (⟨#[]⟩ : ByteArray), .int .i64 0]) ?_ 0 _ rfl; (with_reducible repeat (first | refine blk_drewN ?_ _ | refine blk_drew ?_ | refine blk_alloc ?_ _)); exact BK169.out⟩, ⟨by repeat (first | (with_reducible first | exact HB.out | apply below_alloc | apply pw_below_drewN | apply below_drew1 | refine below_set ?_ GE169.out) | exact HB.out)⟩⟩
            case round =>
              clear H'
              try clear c1
              try clear p1
              try clear q1
              try clear hx1
              try clear c2
              try clear p2
              try clear c3
              try clear c5
              try clear c5b0
              try clear c6
              try clear c6b0
              try clear c7
              try clear c7b0
              try clear hcz9_0
              try clear hcz9_1
              try clear hcz9_2
              try clear hfz9_0
              try clear hfz9_1
              try clear hfz9_2
              try clear hx168_0
              try clear hx168_1
              try clear hx168_2
              try clear p168
              try clear p2
              try clear q168
              obtain ⟨x8_2, x21_2, rfl, HA, HK2, HO_8, HO_19, BK169, HB⟩ := hrel
              cases gk with
              | zero => exact absurd HA.out (by simp [glossatorref3_Files.l1])
              | succ k2 =>
                have H := HA.out
                clear HA
                simp only [glossatorref3_Files.l1] at H
                by_cases c11 : x21_2 < (x5_1.length : Int)
                · rw [if_pos c11] at H
                  have c11b0 : decide (x21_2 < (x5_1.length : Int)) = true := decide_eq_true c11
                  clear c11
                  by_cases c12 : 0 ≤ x21_2
                  · rw [if_pos c12] at H
                    have c12b0 : decide (0 ≤ x21_2) = true := decide_eq_true c12
                    clear c12
                    by_cases c13 : x21_2 < (x5_1.length : Int)
                    · rw [if_pos c13] at H
                      have c13b0 : decide (x21_2 < (x5_1.length : Int)) = true := decide_eq_true c13
                      clear c13
                      by_cases c14 : (rdOf ByteArray.empty x5_1 x21_2).toList = ((rd_T58 l1 x15_1).f1).toList
                      · rw [if_pos c14] at H
                        have c14b0 : ((rdOf ByteArray.empty x5_1 x21_2).toList == ((rd_T58 l1 x15_1).f1).toList) = true := beq_iff_eq.mpr c14
                        have c14b1 : ((rdOf ByteArray.empty x5_1 x21_2).toList != ((rd_T58 l1 x15_1).f1).toList) = false := bne_eq_false_iff_eq.mpr c14
                        clear c14
                        by_cases c15 : ((rd_T58 l1 x15_1).f2) = 3
                        · rw [if_pos c15] at H
                          have c15b0 : (((rd_T58 l1 x15_1).f2) == 3) = true := beq_iff_eq.mpr c15
                          have c15b1 : (((rd_T58 l1 x15_1).f2) != 3) = false := bne_eq_false_iff_eq.mpr c15
                          clear c15
                          have H' := Aside0.mk H
                          clear H
                          have p170 : 0 ≤ (x21_2 : Int) := of_decide_eq_true (by first | (with_reducible assumption) | assumption)
                          have q170 : x21_2 < (x5_1.length : Int) := of_decide_eq_true (by first | (with_reducible assumption) | assumption)
                          obtain ⟨ad170, e170, hx170_0⟩ := Kd.at_string (Kd.R_reads' HO_19.out).2.2 x21_2 p170 q170
                          cases e170
                          replace p170 := eq_true p170
                          replace q170 := eq_true q170
                          have hcz16_0 : wr.cell? ⟨gb169, 0, none⟩ = some (.int .i64 ((rd_T58 l1 x15_1).f0)) := (blk_cell BK169.out 0).trans rfl
                          have hcz16_1 : wr.cell? ⟨gb169, 1, none⟩ = some (.string ((rd_T58 l1 x15_1).f1)) := (blk_cell BK169.out 1).trans rfl
                          have hcz16_2 : wr.cell? ⟨gb169, 2, none⟩ = some (.int .i64 ((rd_T58 l1 x15_1).f2)) := (blk_cell BK169.out 2).trans rfl
                          have hfz16_0 := blk_frozen BK169.out 0
                          have hfz16_1 := blk_frozen BK169.out 1
                          have hfz16_2 := blk_frozen BK169.out 2
                          go_wp2
                          go_roundg k2
                          case measure => have := HK1.out; have := HK2.out; omega
                          case rel => exact ⟨(x8_2), (wrap64 (x21_2 + 1)), (by first | rfl | (simp; done) | (simp [*]; done) | (simp [isEmpty_bne]; done)), H', ⟨by have := HK1.out; have := HK2.out; omega⟩, ⟨by (with_reducible repeat (first | apply Kd.R_alloc | apply Kd.R_drewN | apply Kd.R_drew)); exact HO_8.out⟩, ⟨by (with_reducible repeat (first | apply Kd.R_alloc | apply Kd.R_drewN | apply Kd.R_drew)); exact HO_19.out⟩, ⟨by (with_reducible repeat (first | refine blk_drewN ?_ _ | refine blk_drew ?_ | refine blk_alloc ?_ _)); exact BK169.out⟩, ⟨by repeat (first | (with_reducible first | exact HB.out | apply below_alloc | apply pw_below_drewN | apply below_drew1 | refine below_set ?_ GE169.out) | exact HB.out)⟩⟩
                        · rw [if_neg c15] at H
                          have c15b0 : (((rd_T58 l1 x15_1).f2) == 3) = false := beq_eq_false_iff_ne.mpr c15
                          have c15b1 : (((rd_T58 l1 x15_1).f2) != 3) = true := bne_iff_ne.mpr c15
                          by_cases c17 : x8_2.length < 8796093022208
                          · rw [if_pos c17] at H
                            have LMc17 := Aside0.mk c17
                            clear c17
                            obtain ⟨y171, hy171⟩ : ∃ y_ : List ByteArray, y_ = (x8_2 ++ [rdOf ByteArray.empty x5_1 x21_2]) := ⟨_, rfl⟩
                            replace H : (glossatorref3_Files.l1 k2 y171 l1 (l1.length : Int) x15_1 x5_1 (x5_1.length : Int) (wrap64 (x21_2 + 1)) ((rd_T58 l1 x15_1).f0) ((rd_T58 l1 x15_1).f1) ((rd_T58 l1 x15_1).f2)) = some r := by first | (rw [hy171]; with_reducible exact H) | (have H2_ := (Option.bind_some _ _).symm.trans H; rw [hy171]; with_reducible exact H2_) | (have H2_ := (Option.bind_some _ _).symm.trans H; with_reducible exact H2_) | with_reducible exact H | (rw [hy171]; exact H) | exact H
                            have Ny171 := Aside0.mk hy171
                            clear hy171
                            have H' := Aside0.mk H
                            clear H
                            have p170 : 0 ≤ (x21_2 : Int) := of_decide_eq_true (by first | (with_reducible assumption) | assumption)
                            have q170 : x21_2 < (x5_1.length : Int) := of_decide_eq_true (by first | (with_reducible assumption) | assumption)
                            obtain ⟨ad170, e170, hx170_0⟩ := Kd.at_string (Kd.R_reads' HO_19.out).2.2 x21_2 p170 q170
                            cases e170
                            replace p170 := eq_true p170
                            replace q170 := eq_true q170
                            have hcz18_0 : wr.cell? ⟨gb169, 0, none⟩ = some (.int .i64 ((rd_T58 l1 x15_1).f0)) := (blk_cell BK169.out 0).trans rfl
                            have hcz18_1 : wr.cell? ⟨gb169, 1, none⟩ = some (.string ((rd_T58 l1 x15_1).f1)) := (blk_cell BK169.out 1).trans rfl
                            have hcz18_2 : wr.cell? ⟨gb169, 2, none⟩ = some (.int .i64 ((rd_T58 l1 x15_1).f2)) := (blk_cell BK169.out 2).trans rfl
                            have hfz18_0 := blk_frozen BK169.out 0
                            have hfz18_1 := blk_frozen BK169.out 1
                            have hfz18_2 := blk_frozen BK169.out 2
                            go_wp2_with (first | ((with_reducible refine gate_builtin (b := .append) (xs := #[.tmp 34, .tmp 36]) rfl ?_); at_builtin; refine Kd.R_append Kd.string (w0 := w) w.heap.size rfl (.tmp 34) (.tmp 36) 39 9 (.string ⟨#[]⟩) 16 rfl Try.underlying39 info9 rfl (by decide) (by omega) u8 x8_2 (rdOf ByteArray.empty x5_1 x21_2) [.string (rdOf ByteArray.empty x5_1 x21_2)] (fun k_ => some k_ ≠ (.slice (some ad170) x5_1.length co10 : Value).ownBlock) (fun _ => False) rfl rfl ?aP (fun _ hk => hk.elim) ?aF ?aO ?aB ?aS ?aL ?_; (case aP => exact rfl); (case aB => exact (by repeat (first | (with_reducible first | exact HB.out | apply below_alloc | apply pw_below_drewN | apply below_drew1 | refine below_set ?_ GE169.out) | exact HB.out))); (case aF => exact (fun k_ hk => Kd.fresh' (Kd.R_lt (by (with_reducible repeat (first | apply Kd.R_alloc | apply Kd.R_drewN | apply Kd.R_drew)); exact HO_19.out)) k_ hk)); (case aO => exact (by (with_reducible repeat (first | apply Kd.R_alloc | apply Kd.R_drewN | apply Kd.R_drew)); exact HO_8.out)); (case aS => exact (below_size (by repeat (first | (with_reducible first | exact HB.out | apply below_alloc | apply pw_below_drewN | apply below_drew1 | refine below_set ?_ GE169.out) | exact HB.out)))); (case aL => have := LMc17.out; omega); intro v172 w19 ho hb hg hat; rw [← Ny171.out] at ho; have n0_ := Aside0.mk (Kd.R_after (ok := (fun _ => True)) (by (with_reducible repeat (first | apply Kd.R_alloc | apply Kd.R_drewN | apply Kd.R_drew)); exact Kd.R_mono HO_19.out (fun _ hk => ⟨trivial, hk⟩)) hg hat); have n1_ := Aside0.mk (blk_grown (g := gb169) (o := .cells #[.int .i64 ((rd_T58 l1 x15_1).f0), .string ((rd_T58 l1 x15_1).f1), .int .i64 ((rd_T58 l1 x15_1).f2)] 58 (0, 0)) (by (with_reducible repeat (first | refine blk_drewN ?_ _ | refine blk_drew ?_ | refine blk_alloc ?_ _)); exact BK169.out) hg (Kd.R_ne HO_8.out BK169.out (by decide))); have n2_ := Aside0.mk (hb); have n3_ := Aside0.mk (ho); clear HO_19; clear BK169; clear HB; clear HO_8; have HO_19 := n0_; have BK169 := n1_; have HB := n2_; have HO173 := n3_; clear n0_ n1_ n2_ n3_; clear ho hb hg hat))
                            go_roundg k2
                            case measure => have := HK1.out; have := HK2.out; omega
                            case rel => exact ⟨(y171), (wrap64 (x21_2 + 1)), (by first | rfl | (simp; done) | (simp [*]; done) | (simp [isEmpty_bne]; done)), H', ⟨by have := HK1.out; have := HK2.out; omega⟩, ⟨by (with_reducible repeat (first | apply Kd.R_alloc | apply Kd.R_drewN | apply Kd.R_drew)); exact HO173.out⟩, ⟨by (with_reducible repeat (first | apply Kd.R_alloc | apply Kd.R_drewN | apply Kd.R_drew)); exact Kd.R_mono HO_19.out (fun _ hk => hk.2)⟩, ⟨by (with_reducible repeat (first | refine blk_drewN ?_ _ | refine blk_drew ?_ | refine blk_alloc ?_ _)); exact BK169.out⟩, ⟨by repeat (first | (with_reducible first | exact HB.out | apply below_alloc | apply pw_below_drewN | apply below_drew1 | refine below_set ?_ GE169.out) | exact HB.out)⟩⟩
                          · rw [if_neg c17] at H
                            exact absurd H (by simp)
                      · rw [if_neg c14] at H
                        have c14b0 : ((rdOf ByteArray.empty x5_1 x21_2).toList == ((rd_T58 l1 x15_1).f1).toList) = false := beq_eq_false_iff_ne.mpr c14
                        have c14b1 : ((rdOf ByteArray.empty x5_1 x21_2).toList != ((rd_T58 l1 x15_1).f1).toList) = true := bne_iff_ne.mpr c14
                        by_cases c20 : x8_2.length < 8796093022208
                        · rw [if_pos c20] at H
                          have LMc20 := Aside0.mk c20
                          clear c20
                          obtain ⟨y174, hy174⟩ : ∃ y_ : List ByteArray, y_ = (x8_2 ++ [rdOf ByteArray.empty x5_1 x21_2]) := ⟨_, rfl⟩
                          replace H : (glossatorref3_Files.l1 k2 y174 l1 (l1.length : Int) x15_1 x5_1 (x5_1.length : Int) (wrap64 (x21_2 + 1)) ((rd_T58 l1 x15_1).f0) ((rd_T58 l1 x15_1).f1) ((rd_T58 l1 x15_1).f2)) = some r := by first | (rw [hy174]; with_reducible exact H) | (have H2_ := (Option.bind_some _ _).symm.trans H; rw [hy174]; with_reducible exact H2_) | (have H2_ := (Option.bind_some _ _).symm.trans H; with_reducible exact H2_) | with_reducible exact H | (rw [hy174]; exact H) | exact H
                          have Ny174 := Aside0.mk hy174
                          clear hy174
                          have H' := Aside0.mk H
                          clear H
                          have p170 : 0 ≤ (x21_2 : Int) := of_decide_eq_true (by first | (with_reducible assumption) | assumption)
                          have q170 : x21_2 < (x5_1.length : Int) := of_decide_eq_true (by first | (with_reducible assumption) | assumption)
                          obtain ⟨ad170, e170, hx170_0⟩ := Kd.at_string (Kd.R_reads' HO_19.out).2.2 x21_2 p170 q170
                          cases e170
                          replace p170 := eq_true p170
                          replace q170 := eq_true q170
                          have hcz21_0 : wr.cell? ⟨gb169, 0, none⟩ = some (.int .i64 ((rd_T58 l1 x15_1).f0)) := (blk_cell BK169.out 0).trans rfl
                          have hcz21_1 : wr.cell? ⟨gb169, 1, none⟩ = some (.string ((rd_T58 l1 x15_1).f1)) := (blk_cell BK169.out 1).trans rfl
                          have hcz21_2 : wr.cell? ⟨gb169, 2, none⟩ = some (.int .i64 ((rd_T58 l1 x15_1).f2)) := (blk_cell BK169.out 2).trans rfl
                          have hfz21_0 := blk_frozen BK169.out 0
                          have hfz21_1 := blk_frozen BK169.out 1
                          have hfz21_2 := blk_frozen BK169.out 2
                          go_wp2_with (first | ((with_reducible refine gate_builtin (b := .append) (xs := #[.tmp 34, .tmp 36]) rfl ?_); at_builtin; refine Kd.R_append Kd.string (w0 := w) w.heap.size rfl (.tmp 34) (.tmp 36) 39 9 (.string ⟨#[]⟩) 16 rfl Try.underlying39 info9 rfl (by decide) (by omega) u8 x8_2 (rdOf ByteArray.empty x5_1 x21_2) [.string (rdOf ByteArray.empty x5_1 x21_2)] (fun k_ => some k_ ≠ (.slice (some ad170) x5_1.length co10 : Value).ownBlock) (fun _ => False) rfl rfl ?aP (fun _ hk => hk.elim) ?aF ?aO ?aB ?aS ?aL ?_; (case aP => exact rfl); (case aB => exact (by repeat (first | (with_reducible first | exact HB.out | apply below_alloc | apply pw_below_drewN | apply below_drew1 | refine below_set ?_ GE169.out) | exact HB.out))); (case aF => exact (fun k_ hk => Kd.fresh' (Kd.R_lt (by (with_reducible repeat (first | apply Kd.R_alloc | apply Kd.R_drewN | apply Kd.R_drew)); exact HO_19.out)) k_ hk)); (case aO => exact (by (with_reducible repeat (first | apply Kd.R_alloc | apply Kd.R_drewN | apply Kd.R_drew)); exact HO_8.out)); (case aS => exact (below_size (by repeat (first | (with_reducible first | exact HB.out | apply below_alloc | apply pw_below_drewN | apply below_drew1 | refine below_set ?_ GE169.out) | exact HB.out)))); (case aL => have := LMc20.out; omega); intro v175 w22 ho hb hg hat; rw [← Ny174.out] at ho; have n0_ := Aside0.mk (Kd.R_after (ok := (fun _ => True)) (by (with_reducible repeat (first | apply Kd.R_alloc | apply Kd.R_drewN | apply Kd.R_drew)); exact Kd.R_mono HO_19.out (fun _ hk => ⟨trivial, hk⟩)) hg hat); have n1_ := Aside0.mk (blk_grown (g := gb169) (o := .cells #[.int .i64 ((rd_T58 l1 x15_1).f0), .string ((rd_T58 l1 x15_1).f1), .int .i64 ((rd_T58 l1 x15_1).f2)] 58 (0, 0)) (by (with_reducible repeat (first | refine blk_drewN ?_ _ | refine blk_drew ?_ | refine blk_alloc ?_ _)); exact BK169.out) hg (Kd.R_ne HO_8.out BK169.out (by decide))); have n2_ := Aside0.mk (hb); have n3_ := Aside0.mk (ho); clear HO_19; clear BK169; clear HB; clear HO_8; have HO_19 := n0_; have BK169 := n1_; have HB := n2_; have HO176 := n3_; clear n0_ n1_ n2_ n3_; clear ho hb hg hat))
                          go_roundg k2
                          case measure => have := HK1.out; have := HK2.out; omega
                          case rel => exact ⟨(y174), (wrap64 (x21_2 + 1)), (by first | rfl | (simp; done) | (simp [*]; done) | (simp [isEmpty_bne]; done)), H', ⟨by have := HK1.out; have := HK2.out; omega⟩, ⟨by (with_reducible repeat (first | apply Kd.R_alloc | apply Kd.R_drewN | apply Kd.R_drew)); exact HO176.out⟩, ⟨by (with_reducible repeat (first | apply Kd.R_alloc | apply Kd.R_drewN | apply Kd.R_drew)); exact Kd.R_mono HO_19.out (fun _ hk => hk.2)⟩, ⟨by (with_reducible repeat (first | refine blk_drewN ?_ _ | refine blk_drew ?_ | refine blk_alloc ?_ _)); exact BK169.out⟩, ⟨by repeat (first | (with_reducible first | exact HB.out | apply below_alloc | apply pw_below_drewN | apply below_drew1 | refine below_set ?_ GE169.out) | exact HB.out)⟩⟩
                        · rw [if_neg c20] at H
                          exact absurd H (by simp)
                    · rw [if_neg c13] at H
                      exact absurd H (by simp)
                  · rw [if_neg c12] at H
                    exact absurd H (by simp)
                · rw [if_neg c11] at H
                  have c11b0 : decide (x21_2 < (x5_1.length : Int)) = false := decide_eq_false c11
                  clear c11
                  by_cases c23 : ((rd_T58 l1 x15_1).f2) = 1
                  · rw [if_pos c23] at H
                    have c23b0 : (((rd_T58 l1 x15_1).f2) == 1) = true := beq_iff_eq.mpr c23
                    have c23b1 : (((rd_T58 l1 x15_1).f2) != 1) = false := bne_eq_false_iff_eq.mpr c23
                    clear c23
                    by_cases c24 : x8_2.length < 8796093022208
                    · rw [if_pos c24] at H
                      have LMc24 := Aside0.mk c24
                      clear c24
                      obtain ⟨y177, hy177⟩ : ∃ y_ : List ByteArray, y_ = (x8_2 ++ [((rd_T58 l1 x15_1).f1)]) := ⟨_, rfl⟩
                      replace H : ((glossatorref3_SortStrings.f y177).bind fun t180 => (glossatorref3_Files.l0 k2 t180 l1 (l1.length : Int) (wrap64 (x15_1 + 1)))) = some r := by first | (rw [hy177]; with_reducible exact H) | (have H2_ := (Option.bind_some _ _).symm.trans H; rw [hy177]; with_reducible exact H2_) | (have H2_ := (Option.bind_some _ _).symm.trans H; with_reducible exact H2_) | with_reducible exact H | (rw [hy177]; exact H) | exact H
                      have Ny177 := Aside0.mk hy177
                      clear hy177
                      replace H := Option.bind_eq_some_iff.mp H
                      obtain ⟨t180, A250, H⟩ := H
                      replace H : (glossatorref3_Files.l0 k2 t180 l1 (l1.length : Int) (wrap64 (x15_1 + 1))) = some r := H
                      have A25 := Aside0.mk A250
                      clear A250
                      have H' := Aside0.mk H
                      clear H
                      have hcz26_0 : wr.cell? ⟨gb169, 0, none⟩ = some (.int .i64 ((rd_T58 l1 x15_1).f0)) := (blk_cell BK169.out 0).trans rfl
                      have hcz26_1 : wr.cell? ⟨gb169, 1, none⟩ = some (.string ((rd_T58 l1 x15_1).f1)) := (blk_cell BK169.out 1).trans rfl
                      have hcz26_2 : wr.cell? ⟨gb169, 2, none⟩ = some (.int .i64 ((rd_T58 l1 x15_1).f2)) := (blk_cell BK169.out 2).trans rfl
                      have hfz26_0 := blk_frozen BK169.out 0
                      have hfz26_1 := blk_frozen BK169.out 1
                      have hfz26_2 := blk_frozen BK169.out 2
                      go_wp2_with (first | ((with_reducible refine gate_builtin (b := .append) (xs := #[.tmp 47, .tmp 50]) rfl ?_); at_builtin; refine Kd.R_append Kd.string (w0 := w) w.heap.size rfl (.tmp 47) (.tmp 50) 39 9 (.string ⟨#[]⟩) 16 rfl Try.underlying39 info9 rfl (by decide) (by omega) u8 x8_2 ((rd_T58 l1 x15_1).f1) [.string ((rd_T58 l1 x15_1).f1)] (fun k_ => some k_ ≠ (.slice Ao10 x5_1.length co10 : Value).ownBlock) (fun _ => False) rfl rfl ?aP (fun _ hk => hk.elim) ?aF ?aO ?aB ?aS ?aL ?_; (case aP => exact rfl); (case aB => exact (by repeat (first | (with_reducible first | exact HB.out | apply below_alloc | apply pw_below_drewN | apply below_drew1 | refine below_set ?_ GE169.out) | exact HB.out))); (case aF => exact (fun k_ hk => Kd.fresh' (Kd.R_lt (by (with_reducible repeat (first | apply Kd.R_alloc | apply Kd.R_drewN | apply Kd.R_drew)); exact HO_19.out)) k_ hk)); (case aO => exact (by (with_reducible repeat (first | apply Kd.R_alloc | apply Kd.R_drewN | apply Kd.R_drew)); exact HO_8.out)); (case aS => exact (below_size (by repeat (first | (with_reducible first | exact HB.out | apply below_alloc | apply pw_below_drewN | apply below_drew1 | refine below_set ?_ GE169.out) | exact HB.out)))); (case aL => have := LMc24.out; omega); intro v178 w27 ho hb hg hat; rw [← Ny177.out] at ho; have n0_ := Aside0.mk (Kd.R_after (ok := (fun _ => True)) (by (with_reducible repeat (first | apply Kd.R_alloc | apply Kd.R_drewN | apply Kd.R_drew)); exact Kd.R_mono HO_19.out (fun _ hk => ⟨trivial, hk⟩)) hg hat); have n1_ := Aside0.mk (blk_grown (g := gb169) (o := .cells #[.int .i64 ((rd_T58 l1 x15_1).f0), .string ((rd_T58 l1 x15_1).f1), .int .i64 ((rd_T58 l1 x15_1).f2)] 58 (0, 0)) (by (with_reducible repeat (first | refine blk_drewN ?_ _ | refine blk_drew ?_ | refine blk_alloc ?_ _)); exact BK169.out) hg (Kd.R_ne HO_8.out BK169.out (by decide))); have n2_ := Aside0.mk (hb); have n3_ := Aside0.mk (ho); clear HO_19; clear BK169; clear HB; clear HO_8; have HO_19 := n0_; have BK169 := n1_; have HB := n2_; have HO179 := n3_; clear n0_ n1_ n2_ n3_; clear ho hb hg hat; obtain ⟨Ao28, co28, eo28⟩ := Kd.R_slice HO179.out; subst eo28) | ((with_reducible refine gate_callee (f := 38) rfl ?_); refine goesL_ (some 52) rfl rfl Try.func38 (by kernel_rfl) rfl #[.slice Ao28 y177.length co28] rfl (by (try simp only [List.map_toArray, List.map_cons, List.map_nil]); first | done | rfl | (simp only [List.length_drop, List.length_take]; rfl)) ?_; (with_reducible refine (glossatorref3_SortStrings.calls _ _ y177 t180 _ ?side1 ?side2 A25.out).mono ?_); (case side1 => repeat (first | exact (Kd.R_reads' HO179.out).2.2 | (with_reducible refine Kd.C_alloc ?_ _) | (with_reducible refine Kd.C_drewN ?_ _) | (with_reducible refine Kd.C_drew ?_))); (case side2 => exact (Kd.R_reads' HO179.out).2.1); rintro e w29 ⟨v181, rfl, ho0, hb⟩; refine ⟨_, rfl, ?_⟩; have n0_ := Aside0.mk (Kd.R_elder' (by (with_reducible repeat (first | apply Kd.R_alloc | apply Kd.R_drewN | apply Kd.R_drew)); exact HO_19.out) (Kd.R_base ho0) hb); have n1_ := Aside0.mk (Kd.R_elder' (by (with_reducible repeat (first | apply Kd.R_alloc | apply Kd.R_drewN | apply Kd.R_drew)); exact HO179.out) (Kd.R_base ho0) hb); have n2_ := Aside0.mk (Kd.R_lower (Kd.R_new' (Kd.R_new' ho0 (Kd.R_lt (by (with_reducible repeat (first | apply Kd.R_alloc | apply Kd.R_drewN | apply Kd.R_drew)); exact HO_19.out))) (Kd.R_lt (by (with_reducible repeat (first | apply Kd.R_alloc | apply Kd.R_drewN | apply Kd.R_drew)); exact HO179.out))) (below_size (by repeat (first | (with_reducible first | exact HB.out | apply below_alloc | apply pw_below_drewN | apply below_drew1 | refine below_set ?_ GE169.out) | exact HB.out)))); have n3_ := Aside0.mk (blk_below (g := gb169) (o := .cells #[.int .i64 ((rd_T58 l1 x15_1).f0), .string ((rd_T58 l1 x15_1).f1), .int .i64 ((rd_T58 l1 x15_1).f2)] 58 (0, 0)) (by (with_reducible repeat (first | refine blk_drewN ?_ _ | refine blk_drew ?_ | refine blk_alloc ?_ _)); exact BK169.out) hb); have n4_ := Aside0.mk (below_step (by repeat (first | (with_reducible first | exact HB.out | apply below_alloc | apply pw_below_drewN | apply below_drew1 | refine below_set ?_ GE169.out) | exact HB.out)) hb); clear HO_19; clear HO179; clear BK169; clear HB; have HO_19 := n0_; have HO179 := n1_; have HO182 := n2_; have BK169 := n3_; have HB := n4_; clear n0_ n1_ n2_ n3_ n4_; (try clear hb); (try clear hb2); (try clear hk); (try clear hi); (try clear ho0)))
                      go_roundg k2
                      case measure => have := HK1.out; have := HK2.out; omega
                      case rel => exact ⟨(t180), (wrap64 (x15_1 + 1)), (by first | rfl | (simp; done) | (simp [*]; done) | (simp [isEmpty_bne]; done)), H', ⟨by have := HK1.out; have := HK2.out; omega⟩, ⟨by (with_reducible repeat (first | apply Kd.R_alloc | apply Kd.R_drewN | apply Kd.R_drew)); exact Kd.R_mono HO182.out (fun _ hk => trivial)⟩, ⟨by repeat (first | (with_reducible first | exact HB.out | apply below_alloc | apply pw_below_drewN | apply below_drew1 | refine below_set ?_ GE169.out) | exact HB.out)⟩⟩
                    · rw [if_neg c24] at H
                      exact absurd H (by simp)
                  · rw [if_neg c23] at H
                    have c23b0 : (((rd_T58 l1 x15_1).f2) == 1) = false := beq_eq_false_iff_ne.mpr c23
                    have c23b1 : (((rd_T58 l1 x15_1).f2) != 1) = true := bne_iff_ne.mpr c23
                    by_cases c30 : ((rd_T58 l1 x15_1).f2) = 2
                    · rw [if_pos c30] at H
                      have c30b0 : (((rd_T58 l1 x15_1).f2) == 2) = true := beq_iff_eq.mpr c30
                      have c30b1 : (((rd_T58 l1 x15_1).f2) != 2) = false := bne_eq_false_iff_eq.mpr c30
                      clear c30
                      by_cases c31 : x8_2.length < 8796093022208
                      · rw [if_pos c31] at H
                        have LMc31 := Aside0.mk c31
                        clear c31
                        obtain ⟨y183, hy183⟩ : ∃ y_ : List ByteArray, y_ = (x8_2 ++ [((rd_T58 l1 x15_1).f1)]) := ⟨_, rfl⟩
                        replace H : ((glossatorref3_SortStrings.f y183).bind fun t186 => (glossatorref3_Files.l0 k2 t186 l1 (l1.length : Int) (wrap64 (x15_1 + 1)))) = some r := by first | (rw [hy183]; with_reducible exact H) | (have H2_ := (Option.bind_some _ _).symm.trans H; rw [hy183]; with_reducible exact H2_) | (have H2_ := (Option.bind_some _ _).symm.trans H; with_reducible exact H2_) | with_reducible exact H | (rw [hy183]; exact H) | exact H
                        have Ny183 := Aside0.mk hy183
                        clear hy183
                        replace H := Option.bind_eq_some_iff.mp H
                        obtain ⟨t186, A320, H⟩ := H
                        replace H : (glossatorref3_Files.l0 k2 t186 l1 (l1.length : Int) (wrap64 (x15_1 + 1))) = some r := H
                        have A32 := Aside0.mk A320
                        clear A320
                        have H' := Aside0.mk H
                        clear H
                        have hcz33_0 : wr.cell? ⟨gb169, 0, none⟩ = some (.int .i64 ((rd_T58 l1 x15_1).f0)) := (blk_cell BK169.out 0).trans rfl
                        have hcz33_1 : wr.cell? ⟨gb169, 1, none⟩ = some (.string ((rd_T58 l1 x15_1).f1)) := (blk_cell BK169.out 1).trans rfl
                        have hcz33_2 : wr.cell? ⟨gb169, 2, none⟩ = some (.int .i64 ((rd_T58 l1 x15_1).f2)) := (blk_cell BK169.out 2).trans rfl
                        have hfz33_0 := blk_frozen BK169.out 0
                        have hfz33_1 := blk_frozen BK169.out 1
                        have hfz33_2 := blk_frozen BK169.out 2
                        go_wp2_with (first | ((with_reducible refine gate_builtin (b := .append) (xs := #[.tmp 47, .tmp 50]) rfl ?_); at_builtin; refine Kd.R_append Kd.string (w0 := w) w.heap.size rfl (.tmp 47) (.tmp 50) 39 9 (.string ⟨#[]⟩) 16 rfl Try.underlying39 info9 rfl (by decide) (by omega) u8 x8_2 ((rd_T58 l1 x15_1).f1) [.string ((rd_T58 l1 x15_1).f1)] (fun k_ => some k_ ≠ (.slice Ao10 x5_1.length co10 : Value).ownBlock) (fun _ => False) rfl rfl ?aP (fun _ hk => hk.elim) ?aF ?aO ?aB ?aS ?aL ?_; (case aP => exact rfl); (case aB => exact (by repeat (first | (with_reducible first | exact HB.out | apply below_alloc | apply pw_below_drewN | apply below_drew1 | refine below_set ?_ GE169.out) | exact HB.out))); (case aF => exact (fun k_ hk => Kd.fresh' (Kd.R_lt (by (with_reducible repeat (first | apply Kd.R_alloc | apply Kd.R_drewN | apply Kd.R_drew)); exact HO_19.out)) k_ hk)); (case aO => exact (by (with_reducible repeat (first | apply Kd.R_alloc | apply Kd.R_drewN | apply Kd.R_drew)); exact HO_8.out)); (case aS => exact (below_size (by repeat (first | (with_reducible first | exact HB.out | apply below_alloc | apply pw_below_drewN | apply below_drew1 | refine below_set ?_ GE169.out) | exact HB.out)))); (case aL => have := LMc31.out; omega); intro v184 w34 ho hb hg hat; rw [← Ny183.out] at ho; have n0_ := Aside0.mk (Kd.R_after (ok := (fun _ => True)) (by (with_reducible repeat (first | apply Kd.R_alloc | apply Kd.R_drewN | apply Kd.R_drew)); exact Kd.R_mono HO_19.out (fun _ hk => ⟨trivial, hk⟩)) hg hat); have n1_ := Aside0.mk (blk_grown (g := gb169) (o := .cells #[.int .i64 ((rd_T58 l1 x15_1).f0), .string ((rd_T58 l1 x15_1).f1), .int .i64 ((rd_T58 l1 x15_1).f2)] 58 (0, 0)) (by (with_reducible repeat (first | refine blk_drewN ?_ _ | refine blk_drew ?_ | refine blk_alloc ?_ _)); exact BK169.out) hg (Kd.R_ne HO_8.out BK169.out (by decide))); have n2_ := Aside0.mk (hb); have n3_ := Aside0.mk (ho); clear HO_19; clear BK169; clear HB; clear HO_8; have HO_19 := n0_; have BK169 := n1_; have HB := n2_; have HO185 := n3_; clear n0_ n1_ n2_ n3_; clear ho hb hg hat; obtain ⟨Ao35, co35, eo35⟩ := Kd.R_slice HO185.out; subst eo35) | ((with_reducible refine gate_callee (f := 38) rfl ?_); refine goesL_ (some 52) rfl rfl Try.func38 (by kernel_rfl) rfl #[.slice Ao35 y183.length co35] rfl (by (try simp only [List.map_toArray, List.map_cons, List.map_nil]); first | done | rfl | (simp only [List.length_drop, List.length_take]; rfl)) ?_; (with_reducible refine (glossatorref3_SortStrings.calls _ _ y183 t186 _ ?side1 ?side2 A32.out).mono ?_); (case side1 => repeat (first | exact (Kd.R_reads' HO185.out).2.2 | (with_reducible refine Kd.C_alloc ?_ _) | (with_reducible refine Kd.C_drewN ?_ _) | (with_reducible refine Kd.C_drew ?_))); (case side2 => exact (Kd.R_reads' HO185.out).2.1); rintro e w36 ⟨v187, rfl, ho0, hb⟩; refine ⟨_, rfl, ?_⟩; have n0_ := Aside0.mk (Kd.R_elder' (by (with_reducible repeat (first | apply Kd.R_alloc | apply Kd.R_drewN | apply Kd.R_drew)); exact HO_19.out) (Kd.R_base ho0) hb); have n1_ := Aside0.mk (Kd.R_elder' (by (with_reducible repeat (first | apply Kd.R_alloc | apply Kd.R_drewN | apply Kd.R_drew)); exact HO185.out) (Kd.R_base ho0) hb); have n2_ := Aside0.mk (Kd.R_lower (Kd.R_new' (Kd.R_new' ho0 (Kd.R_lt (by (with_reducible repeat (first | apply Kd.R_alloc | apply Kd.R_drewN | apply Kd.R_drew)); exact HO_19.out))) (Kd.R_lt (by (with_reducible repeat (first | apply Kd.R_alloc | apply Kd.R_drewN | apply Kd.R_drew)); exact HO185.out))) (below_size (by repeat (first | (with_reducible first | exact HB.out | apply below_alloc | apply pw_below_drewN | apply below_drew1 | refine below_set ?_ GE169.out) | exact HB.out)))); have n3_ := Aside0.mk (blk_below (g := gb169) (o := .cells #[.int .i64 ((rd_T58 l1 x15_1).f0), .string ((rd_T58 l1 x15_1).f1), .int .i64 ((rd_T58 l1 x15_1).f2)] 58 (0, 0)) (by (with_reducible repeat (first | refine blk_drewN ?_ _ | refine blk_drew ?_ | refine blk_alloc ?_ _)); exact BK169.out) hb); have n4_ := Aside0.mk (below_step (by repeat (first | (with_reducible first | exact HB.out | apply below_alloc | apply pw_below_drewN | apply below_drew1 | refine below_set ?_ GE169.out) | exact HB.out)) hb); clear HO_19; clear HO185; clear BK169; clear HB; have HO_19 := n0_; have HO185 := n1_; have HO188 := n2_; have BK169 := n3_; have HB := n4_; clear n0_ n1_ n2_ n3_ n4_; (try clear hb); (try clear hb2); (try clear hk); (try clear hi); (try clear ho0)))
                        go_roundg k2
                        case measure => have := HK1.out; have := HK2.out; omega
                        case rel => exact ⟨(t186), (wrap64 (x15_1 + 1)), (by first | rfl | (simp; done) | (simp [*]; done) | (simp [isEmpty_bne]; done)), H', ⟨by have := HK1.out; have := HK2.out; omega⟩, ⟨by (with_reducible repeat (first | apply Kd.R_alloc | apply Kd.R_drewN | apply Kd.R_drew)); exact Kd.R_mono HO188.out (fun _ hk => trivial)⟩, ⟨by repeat (first | (with_reducible first | exact HB.out | apply below_alloc | apply pw_below_drewN | apply below_drew1 | refine below_set ?_ GE169.out) | exact HB.out)⟩⟩
                      · rw [if_neg c31] at H
                        exact absurd H (by simp)
                    · rw [if_neg c30] at H
                      have c30b0 : (((rd_T58 l1 x15_1).f2) == 2) = false := beq_eq_false_iff_ne.mpr c30
                      have c30b1 : (((rd_T58 l1 x15_1).f2) != 2) = true := bne_iff_ne.mpr c30
                      have H' := Aside0.mk H
                      clear H
                      have hcz37_0 : wr.cell? ⟨gb169, 0, none⟩ = some (.int .i64 ((rd_T58 l1 x15_1).f0)) := (blk_cell BK169.out 0).trans rfl
                      have hcz37_1 : wr.cell? ⟨gb169, 1, none⟩ = some (.string ((rd_T58 l1 x15_1).f1)) := (blk_cell BK169.out 1).trans rfl
                      have hcz37_2 : wr.cell? ⟨gb169, 2, none⟩ = some (.int .i64 ((rd_T58 l1 x15_1).f2)) := (blk_cell BK169.out 2).trans rfl
                      have hfz37_0 := blk_frozen BK169.out 0
                      have hfz37_1 := blk_frozen BK169.out 1
                      have hfz37_2 := blk_frozen BK169.out 2
                      go_wp2
                      go_roundg k2
                      case measure => have := HK1.out; have := HK2.out; omega
                      case rel => exact ⟨(x8_2), (wrap64 (x15_1 + 1)), (by first | rfl | (simp; done) | (simp [*]; done) | (simp [isEmpty_bne]; done)), H', ⟨by have := HK1.out; have := HK2.out; omega⟩, ⟨by (with_reducible repeat (first | apply Kd.R_alloc | apply Kd.R_drewN | apply Kd.R_drew)); exact Kd.R_mono HO_8.out (fun _ hk => trivial)⟩, ⟨by repeat (first | (with_reducible first | exact HB.out | apply below_alloc | apply pw_below_drewN | apply below_drew1 | refine below_set ?_ GE169.out) | exact HB.out)⟩⟩
          · rw [if_neg c7] at H
            exact absurd H (by simp)
        · rw [if_neg c6] at H
          exact absurd H (by simp)
      · rw [if_neg c5] at H
        have c5b0 : decide (x15_1 < (l1.length : Int)) = false := decide_eq_false c5
        clear c5
        obtain rfl := Option.some.inj H
        go_wp2
        go_ret
        exact ⟨_, by first | rfl | (simp [errW_none, errW_some] <;> rfl) | (simp [*, errW_none, errW_some] <;> rfl), by (with_reducible repeat (first | apply Kd.R_alloc | apply Kd.R_drewN | apply Kd.R_drew)); exact HO_5.out, by repeat (first | (with_reducible first | exact HB.out | apply below_alloc | apply pw_below_drewN | apply below_drew1) | exact HB.out)⟩

section
open Go.Proofs.Ytcikmpcacakfbaa.Hand
def consStep (m : List (ByteArray × Int)) (e : S58) : Option (List (ByteArray × Int)) :=
  if 1 ≤ e.f2 ∧ e.f2 ≤ 3 then (if ((mget m e.f1).getD 0 != 0) = (e.f2 == 1) then none else some (if e.f2 = 3 then mset (mset m e.f1 1) e.f1 0 else mset m e.f1 1)) else some m
def consGo : List (ByteArray × Int) → List S58 → Bool
  | _, [] => true
  | m, e :: t => match consStep m e with
    | none => false
    | some m' => consGo m' t
def consR (l : List ByteArray) (es : List S58) : Bool := consGo (fwFiles l) es
theorem zero3 (W : World) : (zeroValue 3).run Try.prog W = .ok (.int .i64 0) W := by kernel_rfl
theorem encI_get (m : List (ByteArray × Int)) (x : ByteArray) : (mget (encI m) x).getD (.int .i64 0) = .int .i64 ((mget m x).getD 0) := by
  unfold encI
  rw [mget_map (fun v : Int => Value.int .i64 v)]
  cases mget m x <;> rfl
set_option maxRecDepth 100000 in
set_option maxHeartbeats 16000000 in
theorem cons_calls (A0 : Option Addr) (c0 : Nat) (l0 : List ByteArray) (A1 : Option Addr) (c1 : Nat) (l1 : List S58) (w : World) (hr0 : Kd.C Kd.string w A0 l0.length l0) (hr1 : Kd.C k58 w A1 l1.length l1) (hl0 : l0.length < 100000) (hl1 : l1.length < 100000) :
    Calls Try.prog 26 #[.slice A0 l0.length c0, .slice A1 l1.length c1] w fun e w' => e = .returned (.bool (consR l0 l1)) ∧ Below w.heap.size w w' := by
  have HR0 := Aside0.mk hr0
  have HR1 := Aside0.mk hr1
  have HL0 := Aside0.mk hl0
  have HL1 := Aside0.mk hl1
  clear hr0 hr1 hl0 hl1
  have hmm := @run_makeMap Try.prog
  go_enter Try.func26, Try.ntmps26
  go_wp2
  go_loopg [13] l0.length (fun kq v13 W => ∃ i : Nat, v13 = .int .i64 (i : Int) ∧ kq + i = l0.length ∧ Aside0 (MapIs Value.string W w.heap.size (encI (fwFiles (l0.take i))) ∧ Below w.heap.size w W))
  case atStart => exact ⟨0, rfl, by omega, ⟨MapIs.new w, below_alloc (Below.refl _ _) _⟩⟩
  case round =>
    obtain ⟨i, rfl, hi, hA⟩ := hrel
    cases gk with
    | zero =>
      have HIL := Aside0.mk (show i = l0.length by omega)
      have hb : decide ((i : Int) < (l0.length : Int)) = false := decide_eq_false (by omega)
      have hb' : decide (i < l0.length) = false := decide_eq_false (by omega)
      clear hi
      have hmi := hA.out
      rw [HIL.out, List.take_length] at hmi
      have HMI := Aside0.mk hmi
      clear hmi hA
      obtain ⟨Wl, rfl⟩ : ∃ Wl, Wl = wr := ⟨_, rfl⟩
      go_wp2
      go_loopg [22] l1.length (fun kq v22 W => ∃ i : Nat, v22 = .int .i64 (i : Int) ∧ kq + i = l1.length ∧ Aside0 (∃ m, MapIs Value.string W w.heap.size (encI m) ∧ Below w.heap.size w W ∧ consGo m (l1.drop i) = consR l0 l1))
      case atStart => exact ⟨0, rfl, by omega, ⟨fwFiles l0, HMI.out.1, HMI.out.2, rfl⟩⟩
      case round =>
        obtain ⟨i, rfl, hi, hA⟩ := hrel
        obtain ⟨m, hm, hB, hgo⟩ := hA.out
        clear hA
        cases gk with
        | zero =>
          have HIL := Aside0.mk (show i = l1.length by omega)
          have c0 : decide ((i : Int) < (l1.length : Int)) = false := decide_eq_false (by omega)
          have c0' : decide (i < l1.length) = false := decide_eq_false (by omega)
          have HR := Aside0.mk (show consR l0 l1 = true by rw [← hgo, List.drop_eq_nil_of_le (by omega)]; rfl)
          have HB := Aside0.mk hB
          clear hi hm hB hgo
          go_wp2
          go_ret
          exact ⟨by rw [HR.out]; rfl, HB.out⟩
        | succ k2 =>
          have c0 : decide ((i : Int) < (l1.length : Int)) = true := decide_eq_true (by omega)
          have c0' : decide (i < l1.length) = true := decide_eq_true (by omega)
          have hil : i < l1.length := by omega
          obtain ⟨x, hx⟩ : ∃ x, rd_T58 l1 (i : Int) = x := ⟨_, rfl⟩
          obtain ⟨ad, rfl, x0, x1, x2⟩ := at_T58 (Kd.C_below HR1.out hB) (i : Int) (by omega) (by omega)
          rw [hx, Int.toNat_natCast] at x0 x1 x2
          have r0 := eq_true (show (0 : Int) ≤ (i : Int) by omega)
          have r1 := eq_true (show (i : Int) < (l1.length : Int) by omega)
          have r2 := eq_true hil
          have hdr : l1.drop i = x :: l1.drop (i + 1) := by
            rw [List.drop_eq_getElem_cons hil]
            congr 1
            rw [← hx]; unfold rd_T58; rw [Int.toNat_natCast, List.getD_eq_getElem?_getD, List.getElem?_eq_getElem hil]; rfl
          rw [hdr, consGo] at hgo
          have HGO := Aside0.mk hgo
          clear hil hx hdr hgo
          go_upto_region 10 with (fail)
          obtain ⟨W5, hW5⟩ : ∃ W5, wr.alloc (.cells #[.int .i64 x.f0, .string x.f1, .int .i64 x.f2] 58) = W5 := ⟨_, rfl⟩
          have hb5 : Below wr.heap.size wr W5 := by rw [← hW5]; exact below_alloc (Below.refl _ _) _
          have hk5 : W5.heap[wr.heap.size]? = some (.cells #[.int .i64 x.f0, .string x.f1, .int .i64 x.f2] 58 (0, 0)) := by rw [← hW5]; exact hb_new _ _
          rw [hW5]
          have HMI5 := Aside0.mk (hm.below hb5 hm.lt)
          have HB5 := Aside0.mk (hB.trans (hb5.mono hB.size))
          have HK5 := Aside0.mk hk5
          have HLT := Aside0.mk (show w.heap.size < wr.heap.size from hm.lt)
          clear hW5 r0 r1 r2 c0 c0' x0 x1 x2 hm hB hb5 hk5
          have x0 : W5.cell? ⟨wr.heap.size, 0, none⟩ = some (.int .i64 x.f0) := (cells_of_blk HK5.out 0).trans rfl
          have x1 : W5.cell? ⟨wr.heap.size, 1, none⟩ = some (.string x.f1) := (cells_of_blk HK5.out 1).trans rfl
          have x2 : W5.cell? ⟨wr.heap.size, 2, none⟩ = some (.int .i64 x.f2) := (cells_of_blk HK5.out 2).trans rfl
          have HI := Aside0.mk (show wrap64 ((i : Int) + 1) = ((i + 1 : Nat) : Int) by have := HL1.out; unfold wrap64; omega)
          by_cases kv : 1 ≤ x.f2 ∧ x.f2 ≤ 3
          · have vk : filewatch_validKind.f x.f2 = some true := by unfold filewatch_validKind.f; rw [if_pos kv.1]; simp [kv.2]
            go_upto_region 11 with (go_at_call 49; refine (filewatch_validKind.calls _ _ _ vk).mono ?_; rintro e w9 ⟨rfl, hd9⟩; have HD9 := Aside0.mk hd9; clear hd9)
            have hb9 := HD9.out.below
            have HK9 := Aside0.mk ((hb9.block _ (lt_of_blk HK5.out)).trans HK5.out)
            have HMI9 := Aside0.mk (HMI5.out.below hb9 HMI5.out.lt)
            have HB9 := Aside0.mk (HB5.out.trans (hb9.mono HB5.out.size))
            clear x0 x1 x2 hb9 vk
            have x0 : w9.cell? ⟨wr.heap.size, 0, none⟩ = some (.int .i64 x.f0) := (cells_of_blk HK9.out 0).trans rfl
            have x1 : w9.cell? ⟨wr.heap.size, 1, none⟩ = some (.string x.f1) := (cells_of_blk HK9.out 1).trans rfl
            have x2 : w9.cell? ⟨wr.heap.size, 2, none⟩ = some (.int .i64 x.f2) := (cells_of_blk HK9.out 2).trans rfl
            obtain ⟨v, hv⟩ : ∃ v, (mget m x.f1).getD 0 = v := ⟨_, rfl⟩
            have hlk : (Instr.lookup 83 (.map (some w.heap.size)) (.string x.f1) false).run Try.prog w9 = .ok (.int .i64 v) w9 := by
              have h := HMI9.out.lookup (keyLaw_string Try.underlying9) Try.underlying83 (zero3 w9) x.f1 false
              rw [encI_get, hv] at h
              exact h
            have HST := Aside0.mk (show consStep m x = if (v != 0) = (x.f2 == 1) then none else some (if x.f2 = 3 then mset (mset m x.f1 1) x.f1 0 else mset m x.f1 1) by unfold consStep; rw [if_pos kv, hv])
            clear hv kv
            by_cases kc : (v != 0) = (x.f2 == 1)
            · have HR := Aside0.mk (show consR l0 l1 = false by
                have h := HGO.out
                rw [HST.out, if_pos kc] at h
                exact h.symm)
              cases e1 : (x.f2 == 1) with
              | true =>
                rw [e1] at kc
                go_wp2
                go_ret
                exact ⟨by rw [HR.out]; rfl, HB9.out⟩
              | false =>
                rw [e1] at kc
                go_wp2
                go_ret
                exact ⟨by rw [HR.out]; rfl, HB9.out⟩
            · have HG2 := Aside0.mk (show consGo (if x.f2 = 3 then mset (mset m x.f1 1) x.f1 0 else mset m x.f1 1) (l1.drop (i + 1)) = consR l0 l1 by
                have h := HGO.out
                rw [HST.out, if_neg kc] at h
                exact h)
              obtain ⟨W6, hrun, hm6, hg6⟩ := HMI9.out.update (keyLaw_string Try.underlying9) Try.underlying83 x.f1 (.int .i64 1)
              have hc6 := Chg.of_grown (S := fun k => k = w.heap.size) hg6 (fun k e => (Option.some.inj e).symm)
              have HM6 := Aside0.mk hm6
              have HB6 := Aside0.mk (show Below w.heap.size w W6 from HB9.out.trans (hc6.to_below (fun k _ e => by omega) HB9.out.size))
              have HK6 := Aside0.mk ((hc6.block _ (lt_of_blk HK9.out) (fun e => by have := HLT.out; omega)).trans HK9.out)
              clear hm6 hg6 hc6
              have y1 : W6.cell? ⟨wr.heap.size, 1, none⟩ = some (.string x.f1) := (cells_of_blk HK6.out 1).trans rfl
              have y2 : W6.cell? ⟨wr.heap.size, 2, none⟩ = some (.int .i64 x.f2) := (cells_of_blk HK6.out 2).trans rfl
              have fin : ∀ (b1 : Bool), (x.f2 == 1) = b1 → (v != 0) = !b1 → True := fun _ _ _ => trivial
              cases e1 : (x.f2 == 1) with
              | true =>
                have kc' : (v != 0) = false := by rw [e1] at kc; simpa using kc
                have HN := Aside0.mk (show x.f2 ≠ 3 by have : x.f2 = 1 := by simpa using e1
                                                       omega)
                have e3 : (x.f2 == 3) = false := by have := HN.out; simpa using this
                clear kc fin
                go_wp2
                go_roundg k2
                case measure => omega
                case rel => exact ⟨i + 1, by rw [HI.out], by omega, ⟨mset m x.f1 1, by rw [← encI_set]; exact HM6.out, HB6.out, by have h := HG2.out; rw [if_neg HN.out] at h; exact h⟩⟩
              | false =>
                have kc' : (v != 0) = true := by rw [e1] at kc; simpa using kc
                clear kc fin
                by_cases k3 : x.f2 = 3
                · have e3 : (x.f2 == 3) = true := by simpa using k3
                  have HN := Aside0.mk k3
                  obtain ⟨W7, hrun7, hm7, hg7⟩ := HM6.out.update (keyLaw_string Try.underlying9) Try.underlying83 x.f1 (.int .i64 0)
                  have HM7 := Aside0.mk hm7
                  have HB7 := Aside0.mk (show Below w.heap.size w W7 from HB6.out.trans ((Chg.of_grown (S := fun k => k = w.heap.size) hg7 (fun k e => (Option.some.inj e).symm)).to_below (fun k _ e => by omega) HB6.out.size))
                  clear hm7 hg7 k3
                  go_wp2
                  go_roundg k2
                  case measure => omega
                  case rel => exact ⟨i + 1, by rw [HI.out], by omega, ⟨mset (mset m x.f1 1) x.f1 0, by rw [← encI_set, ← encI_set]; exact HM7.out, HB7.out, by have h := HG2.out; rw [if_pos HN.out] at h; exact h⟩⟩
                · have e3 : (x.f2 == 3) = false := by simpa using k3
                  have HN := Aside0.mk k3
                  clear k3
                  go_wp2
                  go_roundg k2
                  case measure => omega
                  case rel => exact ⟨i + 1, by rw [HI.out], by omega, ⟨mset m x.f1 1, by rw [← encI_set]; exact HM6.out, HB6.out, by have h := HG2.out; rw [if_neg HN.out] at h; exact h⟩⟩
          · have vk : filewatch_validKind.f x.f2 = some false := by
              unfold filewatch_validKind.f
              by_cases k1 : x.f2 ≥ 1
              · rw [if_pos k1]
                have : ¬ x.f2 ≤ 3 := fun h => kv ⟨k1, h⟩
                simp [this]
              · rw [if_neg k1]
            have HG2 := Aside0.mk (show consGo m (l1.drop (i + 1)) = consR l0 l1 by
              have h := HGO.out
              unfold consStep at h
              rw [if_neg kv] at h
              exact h)
            clear kv
            go_wp2_with (go_at_call 49; refine (filewatch_validKind.calls _ _ _ vk).mono ?_; rintro e w9 ⟨rfl, hd9⟩; have HD9 := Aside0.mk hd9; clear hd9)
            go_roundg k2
            case measure => omega
            case rel => exact ⟨i + 1, by rw [HI.out], by omega, ⟨m, HMI5.out.below HD9.out.below HMI5.out.lt, HB5.out.trans (HD9.out.below.mono HB5.out.size), HG2.out⟩⟩
    | succ k2 =>
      have hb : decide ((i : Int) < (l0.length : Int)) = true := decide_eq_true (by omega)
      have hb' : decide (i < l0.length) = true := decide_eq_true (by omega)
      have hil : i < l0.length := by omega
      obtain ⟨x, hx⟩ : ∃ x, rdOf ByteArray.empty l0 (i : Int) = x := ⟨_, rfl⟩
      obtain ⟨ad, rfl, x0⟩ := Kd.at_string (Kd.C_below HR0.out hA.out.2) (i : Int) (by omega) (by omega)
      rw [hx, Int.toNat_natCast] at x0
      have r0 := eq_true (show (0 : Int) ≤ (i : Int) by omega)
      have r1 := eq_true (show (i : Int) < (l0.length : Int) by omega)
      have r2 := eq_true hil
      have HST := Aside0.mk (show fwFiles (l0.take (i + 1)) = mset (fwFiles (l0.take i)) x 1 by
        rw [← fwFiles_snoc, List.take_add_one, List.getElem?_eq_getElem hil]
        congr 2
        rw [← hx]; unfold rdOf; rw [Int.toNat_natCast, List.getD_eq_getElem?_getD, List.getElem?_eq_getElem hil]; rfl)
      clear hil hx
      obtain ⟨W6, hrun, hm6, hg6⟩ := hA.out.1.update (keyLaw_string Try.underlying9) Try.underlying83 x (.int .i64 1)
      have HM6 := Aside0.mk hm6
      have HB6 := Aside0.mk (show Below w.heap.size w W6 from hA.out.2.trans ((Chg.of_grown (S := fun k => k = w.heap.size) hg6 (fun k e => (Option.some.inj e).symm)).to_below (fun k _ e => by omega) hA.out.2.size))
      clear hm6 hg6
      go_wp2
      go_roundg k2
      case measure => omega
      case rel => exact ⟨i + 1, by congr 1; have := HL0.out; unfold wrap64; omega, by omega, ⟨by
        rw [HST.out, ← encI_set]
        exact HM6.out, HB6.out⟩⟩
end
def filewatch_Consistent.f (l0 : List ByteArray) (l1 : List S58) : Option Bool := if l0.length < 100000 ∧ l1.length < 100000 then some (consR l0 l1) else none
theorem filewatch_Consistent.calls (A0 : Option Addr) (c0 : Nat) (l0 : List ByteArray) (A1 : Option Addr) (c1 : Nat) (l1 : List (S58)) (r : Bool) (w : World) (hr0 : Kd.C Kd.string w A0 l0.length l0) (hc0 : l0.length ≤ c0) (hr1 : Kd.C k58 w A1 l1.length l1) (hc1 : l1.length ≤ c1) (h : filewatch_Consistent.f l0 l1 = some r) :
    Calls Try.prog 26 #[.slice A0 l0.length c0, .slice A1 l1.length c1] w fun e w' => e = .returned (.bool r) ∧ Below w.heap.size w w' := by
  unfold filewatch_Consistent.f at h
  split at h
  case isFalse => cases h
  next hl =>
  obtain rfl := Option.some.inj h
  exact cons_calls A0 c0 l0 A1 c1 l1 w hr0 hr1 hl.1 hl.2

end Go.Proofs.Ytcikmpcacakfbaa.QFilewatchBatches
