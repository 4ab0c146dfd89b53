/- What the functions of chapter 18 come to, in plain Lean. The next time, in plain Lean. Chapter 18: the rows by time, the document's answer, in plain Lean. Chapter 18: the document's answer step by step; what stays so; in plain Lean. -/
import Derived.Test.YtnhdohhhgfdhfaaPT
import Derived.Test.YtnhdohhhgfdhfaaSFOpen
namespace Go.SF.C18
open Go.SF
set_option linter.unusedVariables false
set_option linter.unusedSimpArgs false

/-! ### Arm -/
theorem arm_no {T : Tab} {id at' every now : Int} (h : id < 0 ∨ every < 0 ∨ 1073741824 < every ∨ at' ≤ now ∨ 1099511627776 < at') : armI id at' every now = 1 ∧ armT T id at' every now = T := by
  have e : armI id at' every now = 1 := if_pos h
  exact ⟨e, if_neg (by rw [e]; decide)⟩
theorem arm_yes {T : Tab} {id at' every now : Int} (h : ¬ (id < 0 ∨ every < 0 ∨ 1073741824 < every ∨ at' ≤ now ∨ 1099511627776 < at')) : armI id at' every now = 0 ∧ armT T id at' every now = putK T [id, at', every] := by
  have e : armI id at' every now = 0 := if_neg h
  exact ⟨e, if_pos e⟩
theorem putK_len (A : Tab) (row : List Int) : (putK A row).length ≤ A.length + 1 := by
  have h : ∀ A : Tab, (A.filter fun r => decide (hdK r < hdK row)).length + (A.filter fun r => decide (hdK row < hdK r)).length ≤ A.length := fun A => by
    induction A with
    | nil => simp
    | cons r A ih => simp only [List.filter_cons]; split <;> split <;> simp_all <;> omega
  have := h A
  unfold putK
  simp only [List.length_append, List.length_cons]
  omega
theorem armT_len (T : Tab) (id at' every now : Int) : (armT T id at' every now).length ≤ T.length + 1 := by
  unfold armT; split
  · exact putK_len ..
  · omega

/-! ### a row while a map is gone through -/
abbrev K4 : List CK := .i .i64 :: ([.i .i64, .i .i64] ++ [.b])
abbrev K3 : List CK := [.i .i64, .i .i64, .i .i64]
theorem four {r : List Int} (h : okRow K4 r) : ∃ a b c d, r = [a, b, c, d] ∧ (d = 0 ∨ d = 1) := by
  match r, h with
  | [a, b, c, d], h => exact ⟨a, b, c, d, rfl, h.2.2.2.1⟩
theorem three {r : List Int} (h : okRow K3 r) : ∃ a b c, r = [a, b, c] := by
  match r, h with
  | [a, b, c], _ => exact ⟨a, b, c, rfl⟩
theorem filter_nil {p : List Int → Bool} {A : Tab} (h : ∀ r ∈ A, p r = false) : A.filter p = [] := List.filter_eq_nil_iff.2 fun r hr => by rw [h r hr]; simp
theorem remT_app (A B : Tab) : remT (A ++ B) = remT A ++ remT B := List.filter_append ..
section
variable {M : Tab} {x : Int} (hM : M.Pairwise fun a b => hdK a < hdK b) (hr : ∀ r ∈ M, okRow K4 r)
include hM hr
/-- The key x is there, and was not taken. -/
theorem at_key (h1 : ((findK M x).length : Int) = 1) (h2 : ((findK M x).getD (0 : Int).toNat []).getD 3 0 = 1) :
    ∃ A a e B, M = A ++ [x, a, e, 1] :: B ∧ (∀ r ∈ A, hdK r < x) ∧ (∀ r ∈ B, x < hdK r) ∧ clrT M x = A ++ [x, a, e, 0] :: B ∧ findK (clrT M x) x = [[x, a, e, 0]] := by
  obtain ⟨row, hf⟩ := List.length_eq_one_iff.1 (by omega : (findK M x).length = 1)
  have hm : row ∈ findK M x := by rw [hf]; simp
  have hm := List.mem_filter.1 hm
  have hk : hdK row = x := of_decide_eq_true hm.2
  obtain ⟨k, a, e, d, rfl, hd⟩ := four (hr row hm.1)
  rw [hf] at h2
  have hd1 : d = 1 := h2
  have hkx : k = x := hk
  subst hd1; subst hkx
  obtain ⟨A, B, rfl⟩ := List.append_of_mem hm.1
  have hs := List.pairwise_append.1 hM
  have hA : ∀ r ∈ A, hdK r < k := fun r h => hs.2.2 r h [k, a, e, 1] (by simp)
  have hB : ∀ r ∈ B, k < hdK r := fun r h => (List.pairwise_cons.1 hs.2.1).1 r h
  have clr : ∀ N : Tab, (∀ r ∈ N, hdK r ≠ k) → clrT N k = N := fun N h => (List.map_congr_left fun r hr => if_neg (h r hr)).trans (List.map_id' N)
  have e1 := clr A fun r h => by have := hA r h; omega
  have e2 := clr B fun r h => by have := hB r h; omega
  have e3 : clrT (A ++ [k, a, e, 1] :: B) k = A ++ [k, a, e, 0] :: B := by
    have : clrT (A ++ [k, a, e, 1] :: B) k = clrT A k ++ [k, a, e, 0] :: clrT B k := by simp [clrT, hdK]
    rw [this, e1, e2]
  refine ⟨A, a, e, B, rfl, hA, hB, e3, ?_⟩
  rw [e3]
  unfold findK
  rw [List.filter_append, List.filter_cons, filter_nil fun r h => decide_eq_false (by have := hA r h; omega), filter_nil fun r h => decide_eq_false (by have := hB r h; omega)]
  simp [hdK]
end
theorem rem_none {M : Tab} (hr : ∀ r ∈ M, okRow K4 r) (h : ¬ (0 : Int) < (remT M).length) : remT M = [] ∧ ∀ r ∈ M, ∃ a b c, r = [a, b, c, 0] := by
  have h0 : remT M = [] := List.length_eq_zero_iff.1 (by omega)
  refine ⟨h0, fun r hm => ?_⟩
  obtain ⟨a, b, c, d, rfl, hd⟩ := four (hr r hm)
  rcases hd with rfl | rfl
  · exact ⟨a, b, c, rfl⟩
  · have : [a, b, c, 1] ∈ remT M := List.mem_filter.2 ⟨hm, rfl⟩
    rw [h0] at this; cases this
theorem put_mid {A B : Tab} {x a e d : Int} {row : List Int} (hx : hdK row = x) (hA : ∀ r ∈ A, hdK r < x) (hB : ∀ r ∈ B, x < hdK r) : putK (A ++ [x, a, e, d] :: B) row = A ++ row :: B := by
  unfold putK
  rw [hx, List.filter_append, List.filter_append, List.filter_cons, List.filter_cons, if_neg (by simp [hdK]), if_neg (by simp [hdK]),
    List.filter_eq_self.2 fun r h => decide_eq_true (hA r h), filter_nil (A := B) fun r h => decide_eq_false (by have := hB r h; omega),
    filter_nil (A := A) fun r h => decide_eq_false (by have := hA r h; omega), List.filter_eq_self.2 fun r h => decide_eq_true (hB r h)]
  simp
theorem del_mid {A B : Tab} {x : Int} {row : List Int} (hx : hdK row = x) (hA : ∀ r ∈ A, hdK r < x) (hB : ∀ r ∈ B, x < hdK r) : delK (A ++ row :: B) x = A ++ B := by
  unfold delK
  rw [List.filter_append, List.filter_cons, if_neg (by simp [hx]), List.filter_eq_self.2 fun r h => by simp; have := hA r h; omega, List.filter_eq_self.2 fun r h => by simp; have := hB r h; omega]

/-! ### Next -/
theorem flag_row {A : Tab} (hA : ∀ r ∈ A, okRow K3 r) : ∀ r ∈ A, (r ++ [1]).getD 1 0 = r.getD 1 0 ∧ (r ++ [1]).getD 2 0 = r.getD 2 0 ∧ hdK (r ++ [1]) = hdK r ∧ lastK (r ++ [1]) = 1 ∧ (r ++ [1]).dropLast = r := fun r h => by
  obtain ⟨a, b, c, rfl⟩ := three (hA r h); exact ⟨rfl, rfl, rfl, rfl, rfl⟩
theorem rem_flag {A : Tab} : remT (flagT A) = flagT A := List.filter_eq_self.2 fun r h => by
  obtain ⟨s, _, rfl⟩ := List.mem_map.1 h
  simp [lastK]
theorem flagT_len (A : Tab) : (flagT A).length = A.length := List.length_map _

/-! ### insert -/
theorem getD_mem {A : Tab} {i : Int} (h0 : 0 ≤ i) (h1 : i < A.length) : A.getD i.toNat [] ∈ A := by
  have hk : i.toNat < A.length := by omega
  simp [List.getD, hk]
theorem drop_step {A : Tab} {i : Int} (h : 0 ≤ i) (hi : i < A.length) : A.drop i.toNat = A.getD i.toNat [] :: A.drop (i + 1).toNat := by
  have hlt : i.toNat < A.length := by omega
  rw [List.drop_eq_getElem_cons hlt, show (i + 1).toNat = i.toNat + 1 by omega]
  simp [List.getD, List.getElem?_eq_getElem hlt]
theorem take_step {A : Tab} {i : Int} (h : 0 ≤ i) (hi : i < A.length) : A.take (i + 1).toNat = A.take i.toNat ++ [A.getD i.toNat []] := by
  have hlt : i.toNat < A.length := by omega
  rw [show (i + 1).toNat = i.toNat + 1 by omega, List.take_add_one, List.getElem?_eq_getElem hlt]
  simp [List.getD, List.getElem?_eq_getElem hlt]
theorem row3 {row : List Int} (h : okRow K3 row) : [row.getD 0 0, row.getD 1 0, row.getD 2 0] = row := by
  obtain ⟨a, b, c, rfl⟩ := three h; rfl
theorem rank_step {L : Tab} {id a i : Int} (h : 0 ≤ i) (hi : i < L.length) (hc : aheadB ((L.getD i.toNat []).getD 0 0) ((L.getD i.toNat []).getD 1 0) id a = true) : rankF L id a i = rankF L id a (i + 1) := by
  unfold rankF
  rw [drop_step h hi, List.takeWhile_cons, if_pos (by exact hc), List.length_cons]
  omega
theorem rank_stop {L : Tab} {id a i : Int} (h : 0 ≤ i) (hc : ¬ i < L.length ∨ aheadB ((L.getD i.toNat []).getD 0 0) ((L.getD i.toNat []).getD 1 0) id a = false) : rankF L id a i = i := by
  unfold rankF
  by_cases hi : i < L.length
  · have hc := hc.resolve_left (fun x => x hi)
    rw [drop_step h hi, List.takeWhile_cons, if_neg (by show ¬ aheadB _ _ id a = true; rw [hc]; simp)]; simp
  · rw [List.drop_of_length_le (by omega)]; simp
theorem take_while (p : List Int → Bool) : ∀ A : Tab, A.take (A.takeWhile p).length = A.takeWhile p ∧ A.drop (A.takeWhile p).length = A.dropWhile p
  | [] => ⟨rfl, rfl⟩
  | a :: A => by
    have := take_while p A
    rw [List.takeWhile_cons, List.dropWhile_cons]
    split
    · exact ⟨by rw [List.length_cons, List.take_succ_cons, this.1], by rw [List.length_cons, List.drop_succ_cons, this.2]⟩
    · exact ⟨rfl, rfl⟩
theorem insF_eq (id a t : Int) (L : Tab) : insF id a t L = L.take (rankF L id a 0).toNat ++ [id, a, t] :: L.drop (rankF L id a 0).toNat := by
  have h : (rankF L id a 0).toNat = (L.takeWhile fun r => aheadR r id a).length := by unfold rankF; simp
  have hw := take_while (fun r => aheadR r id a) L
  rw [h, hw.1, hw.2]; rfl
theorem insF_len (id a t : Int) (L : Tab) : (insF id a t L).length = L.length + 1 := by
  rw [insF_eq]
  simp
  omega
theorem mod_mid (f : List Int → List Int) (y : List Int) (D : Tab) : ∀ A : Tab, ∀ n, A.length = n → (A ++ y :: D).modify n f = A ++ f y :: D
  | [], _, rfl => by rw [List.length_nil, List.nil_append, List.nil_append, List.modify_zero_cons]
  | a :: A, _, rfl => by rw [List.length_cons, List.cons_append, List.modify_succ_cons, mod_mid f y D A _ rfl, List.cons_append]
theorem ins_copy {L : Tab} {id a t r : Int} (hL : ∀ s ∈ L, okRow K3 s) (h0 : 0 ≤ r) (h1 : r ≤ L.length) :
    (((copyT (L ++ [[id, a, t]]) (r + 1).toNat (((L ++ [[id, a, t]]).drop r.toNat).take ((L.length : Int) + 1 - (r + 1)).toNat)).modify r.toNat fun row => row.set (0 : Int).toNat id).modify r.toNat fun row => row.set (1 : Int).toNat a).modify r.toNat (fun row => row.set (2 : Int).toNat t)
      = L.take r.toNat ++ [id, a, t] :: L.drop r.toNat := by
  obtain ⟨k, rfl⟩ : ∃ k : Nat, r = k := ⟨r.toNat, by omega⟩
  have hk : k ≤ L.length := by omega
  have e1 : ((k : Int) + 1).toNat = k + 1 := by omega
  have e2 : ((L.length : Int) + 1 - ((k : Int) + 1)).toNat = L.length - k := by omega
  rw [e1, e2, Int.toNat_natCast]
  have e3 : ((L ++ [[id, a, t]]).drop k).take (L.length - k) = L.drop k := by
    rw [List.drop_append_of_le_length hk, List.take_append_of_le_length (by simp), List.take_of_length_le (by simp)]
  rw [e3]
  have e4 : copyT (L ++ [[id, a, t]]) (k + 1) (L.drop k) = (L ++ [[id, a, t]]).take (k + 1) ++ L.drop k := by
    unfold copyT
    have h1 : k + 1 + (L.drop k).length = (L ++ [[id, a, t]]).length := by simp; omega
    rw [if_pos (Nat.le_of_eq h1), h1, List.drop_length, List.append_nil]
  rw [e4]
  obtain ⟨y0, y1, y2, e5⟩ : ∃ y0 y1 y2, (L ++ [[id, a, t]]).take (k + 1) = L.take k ++ [[y0, y1, y2]] := by
    rcases Nat.lt_or_ge k L.length with hlt | hge
    · obtain ⟨y0, y1, y2, hy⟩ := three (hL _ (List.getElem_mem hlt))
      refine ⟨y0, y1, y2, ?_⟩
      rw [List.take_append_of_le_length (by omega), List.take_add_one, List.getElem?_eq_getElem hlt, hy]; rfl
    · have : k = L.length := by omega
      subst this
      exact ⟨id, a, t, by rw [List.take_length, List.take_of_length_le (by simp)]⟩
  have hl : (L.take k).length = k := by rw [List.length_take]; omega
  rw [e5, List.append_assoc, List.singleton_append, mod_mid _ _ _ _ _ hl, mod_mid _ _ _ _ _ hl, mod_mid _ _ _ _ _ hl]
  rfl

/-! ### Tick -/
theorem trich {i1 a1 i2 a2 : Int} (h : i1 ≠ i2) (hb : aheadB i1 a1 i2 a2 = false) : aheadB i2 a2 i1 a1 = true := by
  simp only [aheadB, Bool.or_eq_false_iff, Bool.and_eq_false_iff, decide_eq_false_iff_not, Bool.or_eq_true, Bool.and_eq_true, decide_eq_true_eq] at *
  omega
theorem asym {i1 a1 i2 a2 : Int} (hb : aheadB i1 a1 i2 a2 = true) : aheadB i2 a2 i1 a1 = false := by
  simp only [aheadB, Bool.or_eq_false_iff, Bool.and_eq_false_iff, decide_eq_false_iff_not, Bool.or_eq_true, Bool.and_eq_true, decide_eq_true_eq] at *
  omega
theorem trans {i1 a1 i2 a2 i3 a3 : Int} (h1 : aheadB i1 a1 i2 a2 = true) (h2 : aheadB i2 a2 i3 a3 = true) : aheadB i1 a1 i3 a3 = true := by
  simp only [aheadB, Bool.or_eq_true, Bool.and_eq_true, decide_eq_true_eq] at *
  omega
theorem ins_cons (id a t : Int) (y : List Int) (L : Tab) : insF id a t (y :: L) = if aheadR y id a then y :: insF id a t L else [id, a, t] :: y :: L := by
  unfold insF
  rw [List.takeWhile_cons, List.dropWhile_cons]
  split
  · rfl
  · rfl
theorem ins_nil (id a t : Int) : insF id a t [] = [[id, a, t]] := rfl
theorem ins_swap1 {i1 a1 t1 i2 a2 t2 : Int} (h : aheadB i1 a1 i2 a2 = true) : ∀ L : Tab, insF i1 a1 t1 (insF i2 a2 t2 L) = insF i2 a2 t2 (insF i1 a1 t1 L)
  | [] => by
    have h' := asym h
    rw [ins_nil, ins_nil, ins_cons, ins_cons]
    rw [if_neg (by show ¬ aheadB i2 a2 i1 a1 = true; rw [h']; simp), if_pos (show aheadR [i1, a1, t1] i2 a2 = true from h), ins_nil]
  | y :: L => by
    have h' := asym h
    have n1 : ¬ aheadR [i2, a2, t2] i1 a1 = true := by show ¬ aheadB i2 a2 i1 a1 = true; rw [h']; simp
    have p1 : aheadR [i1, a1, t1] i2 a2 = true := h
    by_cases ha : aheadR y i1 a1 = true
    · have hb : aheadR y i2 a2 = true := trans ha h
      rw [ins_cons i2, if_pos hb, ins_cons i1, if_pos ha, ins_swap1 h L, ins_cons i1, if_pos ha, ins_cons i2, if_pos hb]
    · by_cases hb : aheadR y i2 a2 = true
      · rw [ins_cons i2, if_pos hb, ins_cons i1, if_neg ha, ins_cons i1, if_neg ha, ins_cons i2, if_pos p1, ins_cons i2, if_pos hb]
      · rw [ins_cons i2, if_neg hb, ins_cons i1, if_neg n1, ins_cons i1, if_neg ha, ins_cons i2, if_pos p1, ins_cons i2, if_neg hb]
theorem ins_swap {i1 a1 t1 i2 a2 t2 : Int} (h : i1 ≠ i2) (L : Tab) : insF i1 a1 t1 (insF i2 a2 t2 L) = insF i2 a2 t2 (insF i1 a1 t1 L) := by
  cases hb : aheadB i1 a1 i2 a2 with
  | true => exact ins_swap1 hb L
  | false => exact (ins_swap1 (trich h hb) L).symm
theorem fires_in {now id a t : Int} (L : Tab) : ∀ D : Tab, (∀ r ∈ D, hdK r ≠ id) → insF id a t (D.foldr (fireR now) L) = D.foldr (fireR now) (insF id a t L)
  | [], _ => rfl
  | r :: D, h => by
    rw [List.foldr_cons, List.foldr_cons, ← fires_in L D fun s hs => h s (List.mem_cons_of_mem _ hs)]
    exact ins_swap (fun e => h r (by simp) e.symm) _
section
variable {A B L : Tab} {x a e now : Int}
theorem rem_1 : remT (A ++ [x, a, e, 1] :: B) = remT A ++ [x, a, e, 1] :: remT B := by
  rw [remT_app]; congr 1
theorem rem_0 : remT (A ++ [x, a, e, 0] :: B) = remT A ++ remT B := by
  rw [remT_app]; congr 1
theorem rem_2 : remT (A ++ B) = remT A ++ remT B := remT_app ..
theorem tick_not (h : ¬ a ≤ now) : tickO now L (A ++ [x, a, e, 1] :: B) = tickO now L (A ++ [x, a, e, 0] :: B) := by
  unfold tickO
  rw [rem_1, rem_0, List.filter_append, List.filter_append, List.filter_cons, if_neg (by simp [dueB]; omega)]
theorem due_in (hB : ∀ r ∈ B, x < hdK r) : ∀ r ∈ (remT B).filter (dueB now), hdK r ≠ x := fun r h => by
  have := hB r (List.mem_filter.1 (List.mem_filter.1 h).1).1
  omega
theorem tick_one (h : a ≤ now) (hB : ∀ r ∈ B, x < hdK r) {t : Int} (ht : t = if e = 0 then 1 else timesI a e now) : tickO now L (A ++ [x, a, e, 1] :: B) = tickO now (insF x a t L) (A ++ B) := by
  unfold tickO
  rw [rem_1, rem_2, List.filter_append, List.filter_append, List.filter_cons, if_pos (by simp [dueB]; omega), List.foldr_append, List.foldr_append, List.foldr_cons]
  congr 1
  rw [← fires_in _ _ (due_in hB), ht]
  rfl
theorem tick_mid {e' a' : Int} : tickO now L (A ++ [x, a', e', 0] :: B) = tickO now L (A ++ B) := by
  unfold tickO
  rw [rem_0, rem_2]
theorem tickM_not (h : ¬ a ≤ now) : tickM now (A ++ [x, a, e, 1] :: B) = tickM now (A ++ [x, a, e, 0] :: B) := by
  unfold tickM
  rw [List.filterMap_append, List.filterMap_append, List.filterMap_cons, List.filterMap_cons]
  simp [lastK, stepR, dueB, h]
theorem tickM_gone (h : a ≤ now) : tickM now (A ++ [x, a, 0, 1] :: B) = tickM now (A ++ B) := by
  unfold tickM
  rw [List.filterMap_append, List.filterMap_append, List.filterMap_cons]
  simp [lastK, stepR, dueB, h]
theorem tickM_next (h : a ≤ now) (he : ¬ e = 0) : tickM now (A ++ [x, a, e, 1] :: B) = tickM now (A ++ [x, nextI a e now, e, 0] :: B) := by
  unfold tickM
  rw [List.filterMap_append, List.filterMap_append, List.filterMap_cons, List.filterMap_cons]
  simp [lastK, stepR, dueB, h, he, hdK]
end
theorem tickM_id {M : Tab} {now : Int} (h : ∀ r ∈ M, ∃ a b c, r = [a, b, c, 0]) : tickM now M = M := by
  unfold tickM
  induction M with
  | nil => rfl
  | cons r M ih =>
    obtain ⟨a, b, c, rfl⟩ := h r (by simp)
    rw [List.filterMap_cons, if_pos (show lastK [a, b, c, 0] = 0 from rfl)]
    show [a, b, c, 0] :: _ = _
    rw [ih fun s hs => h s (List.mem_cons_of_mem _ hs)]
theorem tickO_id {M L : Tab} {now : Int} (h : remT M = []) : tickO now L M = L := by unfold tickO; rw [h]; rfl
theorem tickL_flag {A : Tab} (hA : ∀ r ∈ A, okRow K3 r) (now : Int) : tickL A now = tickO now [] (flagT A) := by
  unfold tickL tickO
  rw [rem_flag]
  unfold flagT
  induction A with
  | nil => rfl
  | cons r A ih =>
    have hf := flag_row hA r (by simp)
    have ih := ih fun s hs => hA s (List.mem_cons_of_mem _ hs)
    have hd : dueB now (r ++ [1]) = dueB now r := by unfold dueB; rw [hf.1]
    rw [List.map_cons, List.filter_cons, List.filter_cons, hd]
    split
    · rw [List.foldr_cons, List.foldr_cons, ih]
      unfold fireR; rw [hf.1, hf.2.1, hf.2.2.1]
    · exact ih
theorem tickT_flag {A : Tab} (hA : ∀ r ∈ A, okRow K3 r) (now : Int) : tickT A now = unflagT (tickM now (flagT A)) := by
  unfold tickT tickM flagT unflagT
  induction A with
  | nil => rfl
  | cons r A ih =>
    have hf := flag_row hA r (by simp)
    have ih := ih fun s hs => hA s (List.mem_cons_of_mem _ hs)
    rw [List.map_cons, List.filterMap_cons, List.filterMap_cons, hf.2.2.2.1, hf.2.2.2.2, if_neg (by decide)]
    cases hs : stepR now r with
    | none => simp only [Option.map_none]; exact ih
    | some s => simp only [Option.map_some, List.map_cons, List.dropLast_concat]; rw [ih]
theorem tickT_len (A : Tab) (now : Int) : (tickT A now).length ≤ A.length := List.length_filterMap_le ..
theorem remT_len (M : Tab) : (remT M).length ≤ M.length := List.length_filter_le ..

/-! ### rows one by one -/
theorem take_end {A : Tab} {i : Int} (hi : ¬ i < A.length) : A.take i.toNat = A := List.take_of_length_le (by omega)
/-! ### a timer that fires once -/
/-! ### credits -/
end Go.SF.C18
namespace Go.SF.C18
open Go.SF
set_option linter.unusedVariables false
set_option linter.unusedSimpArgs false

theorem putK_mem {A : Tab} {row r : List Int} (h : r ∈ putK A row) : r = row ∨ r ∈ A := by
  unfold putK at h
  rcases List.mem_append.1 h with h | h
  · exact .inr (List.mem_filter.1 h).1
  · rcases List.mem_cons.1 h with h | h
    · exact .inl h
    · exact .inr (List.mem_filter.1 h).1
end Go.SF.C18
namespace Go.SF.C18
open Go.SF
set_option linter.unusedVariables false
set_option linter.unusedSimpArgs false
variable {T L M D G C : Tab} {id a e t now i n : Int}

/-- By time. -/
def SortedL (L : Tab) : Prop := L.Pairwise fun r s => aheadB (r.getD 0 0) (r.getD 1 0) (s.getD 0 0) (s.getD 1 0) = true
theorem ins_perm (id a t : Int) (L : Tab) : (insF id a t L).Perm ([id, a, t] :: L) := by
  unfold insF
  have : L = (L.takeWhile fun r => aheadR r id a) ++ L.dropWhile fun r => aheadR r id a := (List.takeWhile_append_dropWhile ..).symm
  conv => rhs; rw [this]
  exact List.perm_middle
theorem hd0 (r : List Int) : r.getD 0 0 = hdK r := by cases r <;> rfl
theorem three' {r : List Int} (h : r.length = 3) : [hdK r, r.getD 1 0, r.getD 2 0] = r := by
  match r, h with
  | [x, y, z], _ => rfl
theorem sort_cons (r : List Int) (T : Tab) : sortT (r :: T) = insF (hdK r) (r.getD 1 0) (r.getD 2 0) (sortT T) := rfl
theorem sort_mem (hT : ∀ r ∈ T, r.length = 3) : (sortT T).Perm T := by
  induction T with
  | nil => exact .nil
  | cons r T ih =>
    rw [sort_cons]
    refine (ins_perm _ _ _ _).trans ?_
    rw [three' (hT r (List.mem_cons_self ..))]
    exact .cons _ (ih fun s hs => hT s (List.mem_cons_of_mem _ hs))
theorem keys_nodup (h : T.Pairwise fun a b => hdK a < hdK b) : (T.map hdK).Nodup := by
  rw [List.Nodup, List.pairwise_map]
  exact h.imp fun h e => by omega
theorem sort_perm {A B : Tab} (h : A.Perm B) (hn : (A.map hdK).Nodup) : sortT A = sortT B := by
  induction h with
  | nil => rfl
  | cons x h ih => rw [sort_cons, sort_cons, ih (List.nodup_cons.1 hn).2]
  | swap x y l =>
    rw [sort_cons, sort_cons, sort_cons, sort_cons]
    refine ins_swap (fun e => ?_) _
    rw [List.map_cons, List.map_cons, List.nodup_cons] at hn
    exact hn.1 (by rw [e]; exact List.mem_cons_self ..)
  | trans h1 h2 ih1 ih2 => rw [ih1 hn, ih2 ((h1.map hdK).nodup_iff.1 hn)]
theorem ins_sorted (hL : SortedL L) (hk : ∀ r ∈ L, hdK r ≠ id) : SortedL (insF id a t L) := by
  induction L with
  | nil => exact List.pairwise_singleton ..
  | cons y L ih =>
    rw [ins_cons]
    have hL' := List.pairwise_cons.1 hL
    split
    · rename_i hy
      refine List.pairwise_cons.2 ⟨fun s hs => ?_, ih hL'.2 fun r hr => hk r (List.mem_cons_of_mem _ hr)⟩
      rcases List.mem_cons.1 ((ins_perm id a t L).mem_iff.1 hs) with rfl | hs
      · exact hy
      · exact hL'.1 s hs
    · rename_i hy
      have hy : aheadB (y.getD 0 0) (y.getD 1 0) id a = false := by simpa [aheadR] using hy
      have hne : y.getD 0 0 ≠ id := by rw [hd0]; exact hk y (List.mem_cons_self ..)
      have h2 := trich hne hy
      refine List.pairwise_cons.2 ⟨fun s hs => ?_, hL⟩
      rcases List.mem_cons.1 hs with rfl | hs
      · exact h2
      · exact trans h2 (hL'.1 s hs)
theorem sort_sorted (hT : ∀ r ∈ T, r.length = 3) (hn : (T.map hdK).Nodup) : SortedL (sortT T) := by
  induction T with
  | nil => exact List.Pairwise.nil
  | cons r T ih =>
    have hn' := List.nodup_cons.1 hn
    have hT' : ∀ s ∈ T, s.length = 3 := fun s hs => hT s (List.mem_cons_of_mem _ hs)
    rw [sort_cons]
    refine ins_sorted (ih hT' hn'.2) fun s hs e => hn'.1 ?_
    rw [← e]
    exact List.mem_map_of_mem ((sort_mem hT').mem_iff.1 hs)
theorem ins_filter {p : List Int → Bool} (hL : SortedL L) (hk : ∀ r ∈ L, hdK r ≠ id) : (insF id a t L).filter p = if p [id, a, t] then insF id a t (L.filter p) else L.filter p := by
  induction L with
  | nil => rw [ins_nil]; by_cases h : p [id, a, t] <;> simp [h, ins_nil]
  | cons y L ih =>
    have hL' := List.pairwise_cons.1 hL
    have ih := ih hL'.2 fun r hr => hk r (List.mem_cons_of_mem _ hr)
    rw [ins_cons]
    by_cases hy : aheadR y id a = true
    · rw [if_pos hy]
      by_cases py : p y = true
      · rw [List.filter_cons_of_pos py, List.filter_cons_of_pos py, ih]
        split
        · rw [ins_cons, if_pos hy]
        · rfl
      · rw [List.filter_cons_of_neg py, List.filter_cons_of_neg py, ih]
    · rw [if_neg hy]
      by_cases pr : p [id, a, t] = true
      · rw [List.filter_cons_of_pos pr, if_pos pr]
        cases hz : List.filter p (y :: L) with
        | nil => rw [ins_nil]
        | cons z Z =>
          rw [ins_cons, if_neg]
          intro hza
          have hm : z ∈ y :: L := (List.mem_filter.1 (by rw [hz]; exact List.mem_cons_self ..)).1
          rcases List.mem_cons.1 hm with rfl | hm
          · exact hy hza
          · exact hy (trans (hL'.1 z hm) hza)
      · rw [List.filter_cons_of_neg pr, if_neg pr]
theorem sort_filter {p : List Int → Bool} (hT : ∀ r ∈ T, r.length = 3) (hn : (T.map hdK).Nodup) : (sortT T).filter p = sortT (T.filter p) := by
  induction T with
  | nil => rfl
  | cons r T ih =>
    have hn' := List.nodup_cons.1 hn
    have hT' : ∀ s ∈ T, s.length = 3 := fun s hs => hT s (List.mem_cons_of_mem _ hs)
    rw [sort_cons, ins_filter (sort_sorted hT' hn'.2) fun s hs e => hn'.1 (by rw [← e]; exact List.mem_map_of_mem ((sort_mem hT').mem_iff.1 hs)), three' (hT r (List.mem_cons_self ..)), ih hT' hn'.2]
    by_cases pr : p r = true
    · rw [if_pos pr, List.filter_cons_of_pos pr, sort_cons]
    · rw [if_neg pr, List.filter_cons_of_neg pr]
theorem dis_sort (hT : ∀ r ∈ T, r.length = 3) (hn : (T.map hdK).Nodup) : disL (sortT T) id = sortT (delK T id) := sort_filter hT hn
theorem put_sort (hT : ∀ r ∈ T, r.length = 3) (hk : T.Pairwise fun a b => hdK a < hdK b) : putL (sortT T) id a e = sortT (putK T [id, a, e]) := by
  have hn := keys_nodup hk
  unfold putL
  rw [dis_sort hT hn]
  show sortT ([id, a, e] :: delK T id) = _
  refine sort_perm ?_ ?_
  · unfold putK delK
    refine List.Perm.trans ?_ List.perm_middle.symm
    refine .cons _ ?_
    clear hn hT
    induction T with
    | nil => exact .nil
    | cons r T ih =>
      have ih := ih (List.pairwise_cons.1 hk).2
      have e0 : hdK [id, a, e] = id := rfl
      rw [e0] at ih ⊢
      rcases Int.lt_trichotomy (hdK r) id with h | h | h
      · rw [List.filter_cons_of_pos (by simp; omega), List.filter_cons_of_pos (by simpa using h), List.filter_cons_of_neg (by simp; omega)]
        exact .cons _ ih
      · rw [List.filter_cons_of_neg (by simp [h]), List.filter_cons_of_neg (by simp [h]), List.filter_cons_of_neg (by simp [h])]
        exact ih
      · rw [List.filter_cons_of_pos (by simp; omega), List.filter_cons_of_neg (by simp; omega), List.filter_cons_of_pos (by simpa using h)]
        exact (ih.cons _).trans List.perm_middle.symm
  · rw [List.map_cons, List.nodup_cons]
    refine ⟨fun hm => ?_, (List.filter_sublist.map hdK).nodup hn⟩
    obtain ⟨s, hs, hse⟩ := List.mem_map.1 hm
    have := (List.mem_filter.1 hs).2
    have hse : hdK s = id := hse
    simp [hse] at this
theorem arm_sort (hT : ∀ r ∈ T, r.length = 3) (hk : T.Pairwise fun a b => hdK a < hdK b) : armL (sortT T) id a e now = sortT (armT T id a e now) := by
  unfold armL armT
  split
  · exact put_sort hT hk
  · rfl
/-- Those that are due come first. -/
theorem due_filter (hL : SortedL L) : dueL L now = L.filter (dueB now) ∧ restL L now = L.filter fun r => !dueB now r := by
  unfold dueL restL dueB
  induction L with
  | nil => exact ⟨rfl, rfl⟩
  | cons y L ih =>
    have hL' := List.pairwise_cons.1 hL
    obtain ⟨i1, i2⟩ := ih hL'.2
    by_cases h : y.getD 1 0 ≤ now
    · rw [List.takeWhile_cons_of_pos (by simpa using h), List.dropWhile_cons_of_pos (by simpa using h), List.filter_cons_of_pos (by simpa using h), List.filter_cons_of_neg (by simpa using h), i1, i2]
      exact ⟨rfl, rfl⟩
    · rw [List.takeWhile_cons_of_neg (by simpa using h), List.dropWhile_cons_of_neg (by simpa using h)]
      have all : ∀ r ∈ y :: L, ¬ r.getD 1 0 ≤ now := by
        intro r hr
        rcases List.mem_cons.1 hr with rfl | hr
        · exact h
        · have := hL'.1 r hr
          simp only [aheadB, Bool.or_eq_true, Bool.and_eq_true, decide_eq_true_eq] at this
          omega
      rw [List.filter_eq_nil_iff.2 fun r hr => by simpa using all r hr, List.filter_eq_self.2 fun r hr => by simpa using all r hr]
      exact ⟨rfl, rfl⟩
theorem map_ins (f : List Int → Int) (L : Tab) : (insF id a t L).map (fun r => [hdK r, r.getD 1 0, f r]) = insF id a (f [id, a, t]) (L.map fun r => [hdK r, r.getD 1 0, f r]) := by
  induction L with
  | nil => rfl
  | cons y L ih =>
    rw [ins_cons, List.map_cons, ins_cons]
    have : aheadR [hdK y, y.getD 1 0, f y] id a = aheadR y id a := by unfold aheadR; rw [← hd0 y]; rfl
    rw [this]
    split
    · rw [List.map_cons, ih]
    · rfl
theorem out_sort (hD : ∀ r ∈ D, r.length = 3) : outL now (sortT D) = D.foldr (fireR now) [] := by
  induction D with
  | nil => rfl
  | cons r D ih =>
    rw [sort_cons, outL, map_ins, List.foldr_cons, fireR, ← ih fun s hs => hD s (List.mem_cons_of_mem _ hs)]
    rfl
theorem tick_out (hT : ∀ r ∈ T, r.length = 3) (hn : (T.map hdK).Nodup) : outL now (dueL (sortT T) now) = tickL T now := by
  rw [(due_filter (sort_sorted hT hn)).1, sort_filter hT hn, out_sort fun r hr => hT r (List.mem_filter.1 hr).1]
  rfl
theorem putAll_sort : ∀ {G N : Tab}, (∀ r ∈ N, r.length = 3) → (∀ r ∈ G, r.length = 3) → ((G ++ N).map hdK).Nodup → putAll (sortT N) G = sortT (G.reverse ++ N)
  | [], N, _, _, _ => rfl
  | g :: G, N, hN, hG, hn => by
    show putAll (putL (sortT N) (g.getD 0 0) (g.getD 1 0) (g.getD 2 0)) G = _
    have hn0 : g :: (G ++ N) = (g :: G) ++ N := rfl
    have hn1 := List.nodup_cons.1 (show ((g :: (G ++ N)).map hdK).Nodup from hn)
    have hnN : (N.map hdK).Nodup := by
      rw [List.map_append] at hn1
      exact (List.nodup_append.1 hn1.2).2.1
    have hg : hdK g ∉ N.map hdK := fun hm => hn1.1 (by rw [List.map_append]; exact List.mem_append_right _ hm)
    have e1 : putL (sortT N) (g.getD 0 0) (g.getD 1 0) (g.getD 2 0) = sortT (g :: N) := by
      unfold putL
      rw [hd0, dis_sort hN hnN, sort_cons]
      have : delK N (hdK g) = N := List.filter_eq_self.2 fun r hr => by
        simp only [Bool.not_eq_true', decide_eq_false_iff_not]
        intro e
        exact hg (by rw [← e]; exact List.mem_map_of_mem hr)
      rw [this]
    have hp : (g :: (G ++ N)).Perm (G ++ g :: N) := List.perm_middle.symm
    rw [e1, putAll_sort (N := g :: N) (fun r hr => (List.mem_cons.1 hr).elim (fun e => by rw [e]; exact hG g (List.mem_cons_self ..)) (hN r)) (fun r hr => hG r (List.mem_cons_of_mem _ hr)) (((hp.map hdK).nodup_iff).1 hn)]
    rw [List.reverse_cons, List.append_assoc]; rfl
theorem filterMap_part (now : Int) : ∀ T : Tab, (T.filterMap (stepR now)).Perm ((T.filter (dueB now)).filterMap (nxtR now) ++ T.filter fun r => !dueB now r)
  | [] => .nil
  | r :: T => by
    have ih := filterMap_part now T
    by_cases h : dueB now r = true
    · rw [List.filter_cons_of_pos h, List.filter_cons_of_neg (by simp [h])]
      have : stepR now r = nxtR now r := by unfold stepR nxtR; rw [if_pos h]
      rw [List.filterMap_cons, List.filterMap_cons, this]
      cases nxtR now r
      · exact ih
      · exact .cons _ ih
    · rw [List.filter_cons_of_neg h, List.filter_cons_of_pos (by simp [h])]
      have : stepR now r = some r := by unfold stepR; rw [if_neg h]
      rw [List.filterMap_cons, this]
      exact (ih.cons _).trans List.perm_middle.symm
theorem step_key {r s : List Int} (h : stepR now r = some s) : hdK s = hdK r := by
  unfold stepR at h
  split at h
  · split at h
    · cases h
    · simp only [Option.some.injEq] at h; rw [← h]; rfl
  · simp only [Option.some.injEq] at h; rw [h]
theorem step_len {r s : List Int} (hr : r.length = 3) (h : stepR now r = some s) : s.length = 3 := by
  unfold stepR at h
  split at h
  · split at h
    · cases h
    · simp only [Option.some.injEq] at h; rw [← h]; rfl
  · simp only [Option.some.injEq] at h; rw [← h]; exact hr
theorem filterMap_keys (now : Int) : ∀ {T : Tab}, (T.map hdK).Nodup → ((T.filterMap (stepR now)).map hdK).Nodup ∧ ∀ k ∈ (T.filterMap (stepR now)).map hdK, k ∈ T.map hdK
  | [], _ => ⟨List.nodup_nil, by simp⟩
  | r :: T, h => by
    have h' := List.nodup_cons.1 h
    obtain ⟨i1, i2⟩ := filterMap_keys now h'.2
    rw [List.filterMap_cons]
    cases hs : stepR now r with
    | none => exact ⟨i1, fun k hk => List.mem_cons_of_mem _ (i2 k hk)⟩
    | some s =>
      have e := step_key hs
      refine ⟨List.nodup_cons.2 ⟨fun hm => h'.1 (by rw [← e]; exact i2 _ hm), i1⟩, fun k hk => ?_⟩
      rcases List.mem_cons.1 hk with rfl | hk
      · rw [e]; exact List.mem_cons_self ..
      · exact List.mem_cons_of_mem _ (i2 k hk)
theorem tick_sort (hT : ∀ r ∈ T, r.length = 3) (hn : (T.map hdK).Nodup) : tckL (sortT T) now = sortT (tickT T now) := by
  have hd := due_filter (now := now) (sort_sorted hT hn)
  have hTf : ∀ (p : List Int → Bool), ∀ r ∈ T.filter p, r.length = 3 := fun p r hr => hT r (List.mem_filter.1 hr).1
  unfold tckL
  rw [hd.1, hd.2, sort_filter hT hn, sort_filter hT hn]
  have hkf := filterMap_keys now hn
  have hpart := filterMap_part now T
  have hG : (agaL now (sortT (T.filter (dueB now)))).Perm ((T.filter (dueB now)).filterMap (nxtR now)) := (sort_mem (hTf _)).filterMap _
  have h1 : (agaL now (sortT (T.filter (dueB now))) ++ T.filter fun r => !dueB now r).Perm (T.filterMap (stepR now)) := (hG.append_right _).trans hpart.symm
  rw [putAll_sort (hTf _) (fun r hr => ?_) ((h1.map hdK).nodup_iff.2 hkf.1)]
  · refine sort_perm (((List.reverse_perm _).append_right _).trans h1) ?_
    exact ((((List.reverse_perm _).append_right _).trans h1).map hdK).nodup_iff.2 hkf.1
  · obtain ⟨s, _, hs⟩ := List.mem_filterMap.1 hr
    unfold nxtR at hs
    split at hs
    · cases hs
    · simp only [Option.some.injEq] at hs; rw [← hs]; rfl
theorem sort_len (hT : ∀ r ∈ T, r.length = 3) : (sortT T).length = T.length := (sort_mem hT).length_eq
end Go.SF.C18
namespace Go.SF.C18
open Go Go.SF
set_option linter.unusedVariables false
set_option linter.unusedSimpArgs false
variable {T L M D G C : Tab} {id a e t now i n k q w : Int}

theorem is_iff : isB T L = true ↔ L = sortT T ∧ (∀ r ∈ T, r.length = 3) ∧ T.Pairwise fun a b => hdK a < hdK b := by
  simp only [isB, Bool.and_eq_true, decide_eq_true_eq, List.all_eq_true]
theorem dis_same {r : List Int} (hr : r.getD 0 0 = id) (h : L.take (i + 1).toNat = L.take i.toNat ++ [r]) : disL (L.take (i + 1).toNat) id = disL (L.take i.toNat) id := by
  unfold disL
  rw [hd0] at hr
  rw [h, List.filter_append, List.filter_cons_of_neg (by simp [hr])]; simp
theorem dis_more {r : List Int} (hr : ¬ r.getD 0 0 = id) (h : L.take (i + 1).toNat = L.take i.toNat ++ [r]) : disL (L.take (i + 1).toNat) id = disL (L.take i.toNat) id ++ [r] := by
  unfold disL
  rw [hd0] at hr
  rw [h, List.filter_append, List.filter_cons_of_pos (by simp [hr])]; simp
theorem disL_len (L : Tab) (id : Int) : (disL L id).length ≤ L.length := List.length_filter_le ..
theorem putL_len (L : Tab) (id a e : Int) : (putL L id a e).length ≤ L.length + 1 := by
  unfold putL; rw [insF_len]; have := disL_len L id; omega
theorem armL_no (h : id < 0 ∨ e < 0 ∨ 1073741824 < e ∨ a ≤ now ∨ 1099511627776 < a) : armI id a e now = 1 ∧ armL L id a e now = L := by
  have e1 : armI id a e now = 1 := if_pos h
  exact ⟨e1, if_neg (by rw [e1]; decide)⟩
theorem armL_yes (h : ¬ (id < 0 ∨ e < 0 ∨ 1073741824 < e ∨ a ≤ now ∨ 1099511627776 < a)) : armI id a e now = 0 ∧ armL L id a e now = putL L id a e := by
  have e1 : armI id a e now = 0 := if_neg h
  exact ⟨e1, if_pos e1⟩
/-- Credits. -/
theorem crL_yes {r : List Int} (h : hdK r = id) : crL (r :: D) id = r.getD 1 0 := by
  unfold crL
  rw [List.find?_cons_of_pos (by simpa using h)]; rfl
theorem crL_no {r : List Int} (h : ¬ hdK r = id) : crL (r :: D) id = crL D id := by
  unfold crL
  rw [List.find?_cons_of_neg (by simpa using h)]
theorem hasC_yes {r : List Int} (h : hdK r = id) : hasC (r :: D) id = true := by
  unfold hasC; rw [List.any_cons, decide_eq_true h]; rfl
theorem hasC_no {r : List Int} (h : ¬ hdK r = id) : hasC (r :: D) id = hasC D id := by
  unfold hasC; rw [List.any_cons, decide_eq_false h]; rfl
theorem cr_yes (h0 : 0 ≤ i) (h1 : i < D.length) (h : (D.getD i.toNat []).getD 0 0 = id) : hasC (D.drop i.toNat) id = true ∧ crG D id i = (D.getD i.toNat []).getD 1 0 := by
  rw [hd0] at h
  unfold crG
  rw [drop_step h0 h1]
  exact ⟨hasC_yes h, crL_yes h⟩
theorem cr_no (h0 : 0 ≤ i) (h1 : i < D.length) (h : ¬ (D.getD i.toNat []).getD 0 0 = id) : hasC (D.drop i.toNat) id = hasC (D.drop (i + 1).toNat) id ∧ crG D id i = crG D id (i + 1) := by
  rw [hd0] at h
  unfold crG
  rw [drop_step h0 h1]
  exact ⟨hasC_no h, crL_no h⟩
theorem cr_end (h1 : ¬ i < D.length) : hasC (D.drop i.toNat) id = false ∧ crG D id i = 0 := by
  unfold hasC crG crL
  rw [List.drop_of_length_le (by omega)]
  exact ⟨rfl, rfl⟩
theorem two {r : List Int} {k1 k2 : CK} (h : okRow [k1, k2] r) : ∃ a b, r = [a, b] := by
  match r, h with
  | [a, b], _ => exact ⟨a, b, rfl⟩
theorem set_yes (hD : ∀ r ∈ D, okRow [.i .i64, .i .i64] r) (h0 : 0 ≤ i) (h1 : i < D.length) (h : (D.getD i.toNat []).getD 0 0 = id) :
    setG D id n i = D.modify i.toNat (fun row => row.set (1 : Int).toNat n) := by
  obtain ⟨x, y, e⟩ := two (hD _ (getD_mem h0 h1))
  have hs : D = D.take i.toNat ++ D.getD i.toNat [] :: D.drop (i + 1).toNat := by rw [← drop_step h0 h1, List.take_append_drop]
  unfold setG
  rw [drop_step h0 h1, setL, if_pos (by rw [← hd0]; exact h)]
  conv => rhs; rw [hs]
  rw [mod_mid _ _ _ _ _ (by rw [List.length_take]; omega)]
  congr 2
  rw [← h, e]; rfl
theorem set_no (h0 : 0 ≤ i) (h1 : i < D.length) (h : ¬ (D.getD i.toNat []).getD 0 0 = id) : setG D id n i = setG D id n (i + 1) := by
  unfold setG
  rw [drop_step h0 h1, setL, if_neg (by rw [← hd0]; exact h), take_step h0 h1]
  simp
theorem set_none (h : hasC (D.drop (0 : Int).toNat) id = false) : setG D id n 0 = D ++ [[id, n]] := by
  have key : ∀ D : Tab, hasC D id = false → setL D id n = D ++ [[id, n]] := by
    intro D
    induction D with
    | nil => exact fun _ => rfl
    | cons r D ih =>
      intro h
      simp only [hasC, List.any_cons, Bool.or_eq_false_iff, decide_eq_false_iff_not] at h
      rw [setL, if_neg h.1, ih (by simpa [hasC] using h.2)]; rfl
  exact key D h
theorem crL_set (D : Tab) (id n k : Int) : crL (setL D id n) k = if k = id then n else crL D k := by
  induction D with
  | nil =>
    by_cases h : k = id
    · subst h; rw [if_pos rfl]; exact crL_yes rfl
    · rw [if_neg h]; exact crL_no fun e => h e.symm
  | cons r D ih =>
    rw [setL]
    by_cases hr : hdK r = id
    · rw [if_pos hr]
      by_cases h : k = id
      · subst h; rw [if_pos rfl]; exact crL_yes rfl
      · rw [if_neg h, crL_no (fun e => h e.symm), crL_no (fun e => h (by rw [← e, hr]))]
    · rw [if_neg hr]
      by_cases hk : hdK r = k
      · have : ¬ k = id := fun e => hr (hk.trans e)
        rw [if_neg this, crL_yes hk, crL_yes hk]
      · rw [crL_no hk, crL_no hk, ih]
theorem crI_put (C : Tab) (id n k : Int) : crI (putK C [id, n]) k = if k = id then n else crI C k := by
  unfold crI
  have e : findK (putK C [id, n]) k = if k = id then [[id, n]] else findK C k := by
    unfold findK putK
    rw [List.filter_append, List.filter_filter, List.filter_cons, List.filter_filter]
    have e0 : hdK [id, n] = id := rfl
    rw [e0]
    by_cases h : k = id
    · subst h
      rw [if_pos rfl, if_pos (by simp), List.filter_eq_nil_iff.2, List.filter_eq_nil_iff.2]
      · rfl
      · intro r _; simp; omega
      · intro r _; simp; omega
    · rw [if_neg h, if_neg (by simp; omega)]
      rcases Int.lt_or_gt_of_ne h with hl | hl
      · have e1 : C.filter (fun r => decide (hdK r = k) && decide (id < hdK r)) = [] := List.filter_eq_nil_iff.2 fun r _ => by simp; omega
        rw [e1, List.append_nil]
        refine List.filter_congr fun r _ => ?_
        by_cases hk : hdK r = k
        · simp [hk]; omega
        · simp [hk]
      · have e1 : C.filter (fun r => decide (hdK r = k) && decide (hdK r < id)) = [] := List.filter_eq_nil_iff.2 fun r _ => by simp; omega
        rw [e1, List.nil_append]
        refine List.filter_congr fun r _ => ?_
        by_cases hk : hdK r = k
        · simp [hk]; omega
        · simp [hk]
  rw [e]
  split <;> rfl
theorem crE_iff : crB C D = true ↔ ∀ k, crL D k = crI C k := by
  simp only [crB, Bool.and_eq_true, List.all_eq_true, decide_eq_true_eq]
  constructor
  · rintro ⟨h1, h2⟩ k
    by_cases hc : ∃ r ∈ C, hdK r = k
    · obtain ⟨r, hr, rfl⟩ := hc; exact h1 r hr
    · by_cases hd : ∃ r ∈ D, hdK r = k
      · obtain ⟨r, hr, rfl⟩ := hd; exact h2 r hr
      · have e1 : findK C k = [] := List.filter_eq_nil_iff.2 fun r hr => by simpa using fun e => hc ⟨r, hr, e⟩
        have e2 : D.find? (fun r => decide (hdK r = k)) = none := List.find?_eq_none.2 fun r hr => by simpa using fun e => hd ⟨r, hr, e⟩
        unfold crL crI
        rw [e1, e2]; rfl
  · exact fun h => ⟨fun r _ => h _, fun r _ => h _⟩
theorem cr_now (h : crB C D = true) : crG D id 0 = crI C id := crE_iff.1 h id
theorem cr_set (h : crB C D = true) : crB (putK C [id, n]) (setG D id n 0) = true := by
  refine crE_iff.2 fun k => ?_
  show crL (setL D id n) k = _
  rw [crL_set, crI_put, crE_iff.1 h k]
/-- Tick, step by step. -/
theorem due_cons (h : 0 < (L.length : Int)) (hd : (L.getD (0 : Int).toNat []).getD 1 0 ≤ now) : dueL L now = L.getD (0 : Int).toNat [] :: dueL (L.drop (1 : Int).toNat) now ∧ restL L now = restL (L.drop (1 : Int).toNat) now := by
  cases L with
  | nil => simp at h
  | cons r L =>
    have hd : r.getD 1 0 ≤ now := hd
    exact ⟨List.takeWhile_cons_of_pos (by simpa using hd), List.dropWhile_cons_of_pos (by simpa using hd)⟩
theorem due_none (h : ¬ 0 < (L.length : Int) ∨ ¬ (L.getD (0 : Int).toNat []).getD 1 0 ≤ now) : dueL L now = [] ∧ restL L now = L := by
  cases L with
  | nil => exact ⟨rfl, rfl⟩
  | cons r L =>
    have hd : ¬ r.getD 1 0 ≤ now := h.resolve_left (by simp)
    exact ⟨List.takeWhile_cons_of_neg (by simpa using hd), List.dropWhile_cons_of_neg (by simpa using hd)⟩
theorem due_len (L : Tab) (now : Int) : (dueL L now).length + (restL L now).length = L.length := by
  have := congrArg List.length (List.takeWhile_append_dropWhile (p := fun r : List Int => decide (r.getD 1 0 ≤ now)) (l := L))
  rw [List.length_append] at this
  exact this
theorem out_len (now : Int) (D : Tab) : (outL now D).length = D.length := by simp [outL]
theorem aga_len (now : Int) (D : Tab) : (agaL now D).length ≤ D.length := List.length_filterMap_le ..
theorem out_cons (r : List Int) (D : Tab) : outL now (r :: D) = [r.getD 0 0, r.getD 1 0, if r.getD 2 0 = 0 then 1 else timesI (r.getD 1 0) (r.getD 2 0) now] :: outL now D := by
  rw [hd0]; rfl
theorem aga_cons (r : List Int) (D : Tab) (h : ¬ r.getD 2 0 = 0) : agaL now (r :: D) = [r.getD 0 0, nextI (r.getD 1 0) (r.getD 2 0) now, r.getD 2 0] :: agaL now D := by
  have : nxtR now r = some [r.getD 0 0, nextI (r.getD 1 0) (r.getD 2 0) now, r.getD 2 0] := by rw [nxtR, if_neg h, hd0]
  rw [agaL, List.filterMap_cons, this]; rfl
theorem aga_skip (r : List Int) (D : Tab) (h : r.getD 2 0 = 0) : agaL now (r :: D) = agaL now D := by
  have : nxtR now r = none := by rw [nxtR, if_pos h]
  rw [agaL, List.filterMap_cons, this]; rfl
theorem tim_iff : timB T n = true ↔ ∀ r ∈ T, n < r.getD 1 0 ∧ r.getD 1 0 ≤ 1099511627776 ∧ 0 ≤ r.getD 2 0 ∧ r.getD 2 0 ≤ 1073741824 := by
  simp only [timB, List.all_eq_true, Bool.and_eq_true, decide_eq_true_eq, and_assoc]
theorem tim_drop (h : timB L n = true) : timB (L.drop (1 : Int).toNat) n = true := tim_iff.2 fun r hr => tim_iff.1 h r (List.mem_of_mem_drop hr)
theorem tim_head (h : timB L n = true) (h0 : 0 < (L.length : Int)) : 0 ≤ (L.getD (0 : Int).toNat []).getD 2 0 := (tim_iff.1 h _ (getD_mem (by omega) (by omega))).2.2.1
theorem putAll_step (h0 : 0 ≤ i) (h1 : i < G.length) : putAll L (G.drop i.toNat) = putAll (putL L ((G.getD i.toNat []).getD 0 0) ((G.getD i.toNat []).getD 1 0) ((G.getD i.toNat []).getD 2 0)) (G.drop (i + 1).toNat) := by
  rw [drop_step h0 h1]; rfl
theorem putAll_end (h1 : ¬ i < G.length) : putAll L (G.drop i.toNat) = L := by
  rw [List.drop_of_length_le (by omega)]; rfl
/-! ### what stays so -/
theorem put_rise (h : T.Pairwise fun a b => hdK a < hdK b) (r : List Int) : (putK T r).Pairwise fun a b => hdK a < hdK b := by
  unfold putK
  refine List.pairwise_append.2 ⟨h.filter _, List.pairwise_cons.2 ⟨fun s hs => ?_, h.filter _⟩, fun s hs u hu => ?_⟩
  · simpa using (List.mem_filter.1 hs).2
  · have h1 : hdK s < hdK r := by simpa using (List.mem_filter.1 hs).2
    rcases List.mem_cons.1 hu with rfl | hu
    · exact h1
    · have h2 : hdK r < hdK u := by simpa using (List.mem_filter.1 hu).2
      omega
theorem put_mem {r s : List Int} (h : s ∈ putK T r) : s = r ∨ s ∈ T := by
  unfold putK at h
  rcases List.mem_append.1 h with h | h
  · exact .inr (List.mem_filter.1 h).1
  · rcases List.mem_cons.1 h with h | h
    · exact .inl h
    · exact .inr (List.mem_filter.1 h).1
theorem is_arm (h : isB T L = true) : isB (armT T id a e now) (armL L id a e now) = true := by
  obtain ⟨h1, h2, h3⟩ := is_iff.1 h
  rw [h1, arm_sort h2 h3]
  refine is_iff.2 ⟨rfl, ?_, ?_⟩
  · unfold armT; split
    · intro r hr
      rcases put_mem hr with rfl | hr
      · rfl
      · exact h2 r hr
    · exact h2
  · unfold armT; split
    · exact put_rise h3 _
    · exact h3
theorem tim_arm (h : timB T now = true) : timB (armT T id a e now) now = true := by
  unfold armT
  split
  · rename_i ha
    have hn : ¬ (id < 0 ∨ e < 0 ∨ 1073741824 < e ∨ a ≤ now ∨ 1099511627776 < a) := fun hh => by rw [armI, if_pos hh] at ha; cases ha
    refine tim_iff.2 fun r hr => ?_
    rcases put_mem hr with rfl | hr
    · show now < a ∧ a ≤ _ ∧ 0 ≤ e ∧ e ≤ _
      omega
    · exact tim_iff.1 h r hr
  · exact h
theorem is_dis (h : isB T L = true) : isB (delK T id) (disL L id) = true := by
  obtain ⟨h1, h2, h3⟩ := is_iff.1 h
  rw [h1, dis_sort h2 (keys_nodup h3)]
  exact is_iff.2 ⟨rfl, fun r hr => h2 r (List.mem_filter.1 hr).1, h3.filter _⟩
theorem tim_del (h : timB T n = true) : timB (delK T id) n = true := tim_iff.2 fun r hr => tim_iff.1 h r (List.mem_filter.1 hr).1
theorem del_len (T : Tab) (id : Int) : (delK T id).length + (findK T id).length = T.length := by
  unfold delK findK
  induction T with
  | nil => rfl
  | cons r T ih =>
    by_cases h : hdK r = id
    · rw [List.filter_cons_of_neg (by simp [h]), List.filter_cons_of_pos (by simp [h])]; simp; omega
    · rw [List.filter_cons_of_pos (by simp [h]), List.filter_cons_of_neg (by simp [h])]; simp; omega
theorem is_len (h : isB T L = true) : L.length = T.length := by
  obtain ⟨h1, h2, _⟩ := is_iff.1 h
  rw [h1, sort_len h2]
theorem is_tick (h : isB T L = true) : isB (tickT T now) (tckL L now) = true := by
  obtain ⟨h1, h2, h3⟩ := is_iff.1 h
  rw [h1, tick_sort h2 (keys_nodup h3)]
  refine is_iff.2 ⟨rfl, fun r hr => ?_, ?_⟩
  · obtain ⟨s, hs, hsr⟩ := List.mem_filterMap.1 hr
    exact step_len (h2 s hs) hsr
  · unfold tickT
    rw [List.pairwise_filterMap]
    refine h3.imp fun {x y} hxy u hu v hv => ?_
    rw [step_key hu, step_key hv]; exact hxy
theorem is_out (h : isB T L = true) : tickL T now = outL now (dueL L now) := by
  obtain ⟨h1, h2, h3⟩ := is_iff.1 h
  rw [h1, tick_out h2 (keys_nodup h3)]
theorem is_tim (h : isB T L = true) (ht : timB T n = true) (h0 : 0 ≤ n) : timB L 0 = true := by
  obtain ⟨h1, h2, _⟩ := is_iff.1 h
  refine tim_iff.2 fun r hr => ?_
  rw [h1] at hr
  have := tim_iff.1 ht r ((sort_mem h2).mem_iff.1 hr)
  omega
theorem next_in (h0 : 0 ≤ a) (h1 : a ≤ now) (hn : now ≤ 549755813888) (he : 0 < e) (he1 : e ≤ 1073741824) : now < nextI a e now ∧ nextI a e now ≤ 1099511627776 := by
  have w : ∀ x : Int, -9223372036854775808 ≤ x → x ≤ 9223372036854775807 → W x = x := fun x g1 g2 => wrap_in (by simp only [kmin]; omega) (by simp only [kmax]; omega)
  have hq : (now - a).tdiv e = (now - a) / e := Int.tdiv_eq_ediv_of_nonneg (by omega)
  have q0 : 0 ≤ (now - a) / e := Int.ediv_nonneg (by omega) (by omega)
  have q1 : (now - a) / e ≤ now - a := Int.ediv_le_self _ (by omega)
  have m1 : (now - a) / e * e ≤ now - a := Int.ediv_mul_le _ (by omega)
  have m2 : now - a < ((now - a) / e + 1) * e := Int.lt_ediv_add_one_mul_self _ he
  have et : timesI a e now = (now - a) / e + 1 := by
    unfold timesI
    rw [w (now - a) (by omega) (by omega), hq, w ((now - a) / e) (by omega) (by omega), w ((now - a) / e + 1) (by omega) (by omega)]
  have em : ((now - a) / e + 1) * e = (now - a) / e * e + e := by rw [Int.add_mul]; omega
  have m0 : 0 ≤ (now - a) / e * e := Int.mul_nonneg q0 (by omega)
  unfold nextI
  rw [et, w (((now - a) / e + 1) * e) (by omega) (by omega), w _ (by omega) (by omega)]
  omega
theorem tim_tick (h : timB T n = true) (h0 : 0 ≤ n) (h1 : n ≤ now) (h2 : now ≤ 549755813888) : timB (tickT T now) now = true := by
  refine tim_iff.2 fun r hr => ?_
  obtain ⟨s, hs, hsr⟩ := List.mem_filterMap.1 hr
  obtain ⟨a1, a2, a3, a4⟩ := tim_iff.1 h s hs
  unfold stepR at hsr
  split at hsr
  · rename_i hd
    have hd : s.getD 1 0 ≤ now := of_decide_eq_true hd
    split at hsr
    · cases hsr
    · rename_i he
      simp only [Option.some.injEq] at hsr
      subst hsr
      have := next_in (a := s.getD 1 0) (e := s.getD 2 0) (by omega) hd h2 (by omega) a4
      exact ⟨this.1, this.2, a3, a4⟩
  · rename_i hd
    simp only [Option.some.injEq] at hsr
    subst hsr
    have hd : ¬ s.getD 1 0 ≤ now := fun e => hd (decide_eq_true e)
    exact ⟨by omega, a2, a3, a4⟩
end Go.SF.C18
