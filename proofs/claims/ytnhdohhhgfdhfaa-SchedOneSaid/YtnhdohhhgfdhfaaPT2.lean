/- What the functions of chapter 18 come to, in plain Lean. -/
import Derived.Test.YtnhdohhhgfdhfaaPT
import Derived.Test.YtnhdohhhgfdhfaaSFOpen
namespace Go.SF.C18
open Go.SF
set_option linter.unusedVariables false
set_option linter.unusedSimpArgs false

/-! ### Arm -/
theorem arm_no {T : Tab} {id at' every now : Int} (h : id < 0 ∨ every < 0 ∨ 1073741824 < every ∨ at' ≤ now ∨ 1099511627776 < at') : armI id at' every now = 1 ∧ armT T id at' every now = T := by
  have e : armI id at' every now = 1 := if_pos h
  exact ⟨e, if_neg (by rw [e]; decide)⟩
theorem arm_yes {T : Tab} {id at' every now : Int} (h : ¬ (id < 0 ∨ every < 0 ∨ 1073741824 < every ∨ at' ≤ now ∨ 1099511627776 < at')) : armI id at' every now = 0 ∧ armT T id at' every now = putK T [id, at', every] := by
  have e : armI id at' every now = 0 := if_neg h
  exact ⟨e, if_pos e⟩
theorem putK_len (A : Tab) (row : List Int) : (putK A row).length ≤ A.length + 1 := by
  have h : ∀ A : Tab, (A.filter fun r => decide (hdK r < hdK row)).length + (A.filter fun r => decide (hdK row < hdK r)).length ≤ A.length := fun A => by
    induction A with
    | nil => simp
    | cons r A ih => simp only [List.filter_cons]; split <;> split <;> simp_all <;> omega
  have := h A
  unfold putK
  simp only [List.length_append, List.length_cons]
  omega
theorem armT_len (T : Tab) (id at' every now : Int) : (armT T id at' every now).length ≤ T.length + 1 := by
  unfold armT; split
  · exact putK_len ..
  · omega

/-! ### a row while a map is gone through -/
abbrev K4 : List CK := .i .i64 :: ([.i .i64, .i .i64] ++ [.b])
abbrev K3 : List CK := [.i .i64, .i .i64, .i .i64]
theorem four {r : List Int} (h : okRow K4 r) : ∃ a b c d, r = [a, b, c, d] ∧ (d = 0 ∨ d = 1) := by
  match r, h with
  | [a, b, c, d], h => exact ⟨a, b, c, d, rfl, h.2.2.2.1⟩
theorem three {r : List Int} (h : okRow K3 r) : ∃ a b c, r = [a, b, c] := by
  match r, h with
  | [a, b, c], _ => exact ⟨a, b, c, rfl⟩
theorem filter_nil {p : List Int → Bool} {A : Tab} (h : ∀ r ∈ A, p r = false) : A.filter p = [] := List.filter_eq_nil_iff.2 fun r hr => by rw [h r hr]; simp
theorem remT_app (A B : Tab) : remT (A ++ B) = remT A ++ remT B := List.filter_append ..
section
variable {M : Tab} {x : Int} (hM : M.Pairwise fun a b => hdK a < hdK b) (hr : ∀ r ∈ M, okRow K4 r)
include hM hr
/-- The key x is there, and was not taken. -/
theorem at_key (h1 : ((findK M x).length : Int) = 1) (h2 : ((findK M x).getD (0 : Int).toNat []).getD 3 0 = 1) :
    ∃ A a e B, M = A ++ [x, a, e, 1] :: B ∧ (∀ r ∈ A, hdK r < x) ∧ (∀ r ∈ B, x < hdK r) ∧ clrT M x = A ++ [x, a, e, 0] :: B ∧ findK (clrT M x) x = [[x, a, e, 0]] := by
  obtain ⟨row, hf⟩ := List.length_eq_one_iff.1 (by omega : (findK M x).length = 1)
  have hm : row ∈ findK M x := by rw [hf]; simp
  have hm := List.mem_filter.1 hm
  have hk : hdK row = x := of_decide_eq_true hm.2
  obtain ⟨k, a, e, d, rfl, hd⟩ := four (hr row hm.1)
  rw [hf] at h2
  have hd1 : d = 1 := h2
  have hkx : k = x := hk
  subst hd1; subst hkx
  obtain ⟨A, B, rfl⟩ := List.append_of_mem hm.1
  have hs := List.pairwise_append.1 hM
  have hA : ∀ r ∈ A, hdK r < k := fun r h => hs.2.2 r h [k, a, e, 1] (by simp)
  have hB : ∀ r ∈ B, k < hdK r := fun r h => (List.pairwise_cons.1 hs.2.1).1 r h
  have clr : ∀ N : Tab, (∀ r ∈ N, hdK r ≠ k) → clrT N k = N := fun N h => (List.map_congr_left fun r hr => if_neg (h r hr)).trans (List.map_id' N)
  have e1 := clr A fun r h => by have := hA r h; omega
  have e2 := clr B fun r h => by have := hB r h; omega
  have e3 : clrT (A ++ [k, a, e, 1] :: B) k = A ++ [k, a, e, 0] :: B := by
    have : clrT (A ++ [k, a, e, 1] :: B) k = clrT A k ++ [k, a, e, 0] :: clrT B k := by simp [clrT, hdK]
    rw [this, e1, e2]
  refine ⟨A, a, e, B, rfl, hA, hB, e3, ?_⟩
  rw [e3]
  unfold findK
  rw [List.filter_append, List.filter_cons, filter_nil fun r h => decide_eq_false (by have := hA r h; omega), filter_nil fun r h => decide_eq_false (by have := hB r h; omega)]
  simp [hdK]
end
theorem rem_none {M : Tab} (hr : ∀ r ∈ M, okRow K4 r) (h : ¬ (0 : Int) < (remT M).length) : remT M = [] ∧ ∀ r ∈ M, ∃ a b c, r = [a, b, c, 0] := by
  have h0 : remT M = [] := List.length_eq_zero_iff.1 (by omega)
  refine ⟨h0, fun r hm => ?_⟩
  obtain ⟨a, b, c, d, rfl, hd⟩ := four (hr r hm)
  rcases hd with rfl | rfl
  · exact ⟨a, b, c, rfl⟩
  · have : [a, b, c, 1] ∈ remT M := List.mem_filter.2 ⟨hm, rfl⟩
    rw [h0] at this; cases this
theorem put_mid {A B : Tab} {x a e d : Int} {row : List Int} (hx : hdK row = x) (hA : ∀ r ∈ A, hdK r < x) (hB : ∀ r ∈ B, x < hdK r) : putK (A ++ [x, a, e, d] :: B) row = A ++ row :: B := by
  unfold putK
  rw [hx, List.filter_append, List.filter_append, List.filter_cons, List.filter_cons, if_neg (by simp [hdK]), if_neg (by simp [hdK]),
    List.filter_eq_self.2 fun r h => decide_eq_true (hA r h), filter_nil (A := B) fun r h => decide_eq_false (by have := hB r h; omega),
    filter_nil (A := A) fun r h => decide_eq_false (by have := hA r h; omega), List.filter_eq_self.2 fun r h => decide_eq_true (hB r h)]
  simp
theorem del_mid {A B : Tab} {x : Int} {row : List Int} (hx : hdK row = x) (hA : ∀ r ∈ A, hdK r < x) (hB : ∀ r ∈ B, x < hdK r) : delK (A ++ row :: B) x = A ++ B := by
  unfold delK
  rw [List.filter_append, List.filter_cons, if_neg (by simp [hx]), List.filter_eq_self.2 fun r h => by simp; have := hA r h; omega, List.filter_eq_self.2 fun r h => by simp; have := hB r h; omega]

/-! ### Next -/
theorem clrAll_id {M : Tab} (h : ∀ r ∈ M, ∃ a b c, r = [a, b, c, 0]) : clrAll M = M :=
  (List.map_congr_left fun r hm => by obtain ⟨a, b, c, rfl⟩ := h r hm; rfl).trans (List.map_id' M)
theorem clrAll_mid (A B : Tab) (x a e d d' : Int) : clrAll (A ++ [x, a, e, d] :: B) = clrAll (A ++ [x, a, e, d'] :: B) := by simp [clrAll]
theorem min_foldr (a : Int) (f : List Int → Int) : ∀ (L : Tab) (m : Int), min a (L.foldr (fun r m => min (f r) m) m) = L.foldr (fun r m => min (f r) m) (min m a)
  | [], m => by simp only [List.foldr_nil]; omega
  | r :: L, m => by
    simp only [List.foldr_cons]
    rw [← min_foldr a f L m]; omega
theorem least_mid {A B : Tab} {x a e m : Int} : leastR m (A ++ [x, a, e, 1] :: B) = leastR (min m a) (A ++ [x, a, e, 0] :: B) := by
  unfold leastR
  rw [remT_app, remT_app]
  have e1 : remT ([x, a, e, 1] :: B) = [x, a, e, 1] :: remT B := by simp [remT, lastK]
  have e0 : remT ([x, a, e, 0] :: B) = remT B := by simp [remT, lastK]
  rw [e1, e0, List.foldr_append, List.foldr_append, List.foldr_cons]
  congr 1
  exact min_foldr a _ _ m
theorem flag_row {A : Tab} (hA : ∀ r ∈ A, okRow K3 r) : ∀ r ∈ A, (r ++ [1]).getD 1 0 = r.getD 1 0 ∧ (r ++ [1]).getD 2 0 = r.getD 2 0 ∧ hdK (r ++ [1]) = hdK r ∧ lastK (r ++ [1]) = 1 ∧ (r ++ [1]).dropLast = r := fun r h => by
  obtain ⟨a, b, c, rfl⟩ := three (hA r h); exact ⟨rfl, rfl, rfl, rfl, rfl⟩
theorem rem_flag {A : Tab} : remT (flagT A) = flagT A := List.filter_eq_self.2 fun r h => by
  obtain ⟨s, _, rfl⟩ := List.mem_map.1 h
  simp [lastK]
theorem least_flag {A : Tab} (hA : ∀ r ∈ A, okRow K3 r) (m : Int) : leastR m (flagT A) = A.foldr (fun r m => min (r.getD 1 0) m) m := by
  unfold leastR
  rw [rem_flag]
  unfold flagT
  induction A with
  | nil => rfl
  | cons r A ih =>
    rw [List.map_cons, List.foldr_cons, List.foldr_cons, ih fun s hs => hA s (List.mem_cons_of_mem _ hs), (flag_row hA r (by simp)).1]
theorem unflag_clr (A : Tab) : unflagT (clrAll (flagT A)) = A := by
  simp [unflagT, clrAll, flagT]
  exact (List.map_congr_left fun r _ => by simp).trans (List.map_id' A)
theorem flagT_len (A : Tab) : (flagT A).length = A.length := List.length_map _

/-! ### insert -/
theorem getD_mem {A : Tab} {i : Int} (h0 : 0 ≤ i) (h1 : i < A.length) : A.getD i.toNat [] ∈ A := by
  have hk : i.toNat < A.length := by omega
  simp [List.getD, hk]
theorem drop_step {A : Tab} {i : Int} (h : 0 ≤ i) (hi : i < A.length) : A.drop i.toNat = A.getD i.toNat [] :: A.drop (i + 1).toNat := by
  have hlt : i.toNat < A.length := by omega
  rw [List.drop_eq_getElem_cons hlt, show (i + 1).toNat = i.toNat + 1 by omega]
  simp [List.getD, List.getElem?_eq_getElem hlt]
theorem take_step {A : Tab} {i : Int} (h : 0 ≤ i) (hi : i < A.length) : A.take (i + 1).toNat = A.take i.toNat ++ [A.getD i.toNat []] := by
  have hlt : i.toNat < A.length := by omega
  rw [show (i + 1).toNat = i.toNat + 1 by omega, List.take_add_one, List.getElem?_eq_getElem hlt]
  simp [List.getD, List.getElem?_eq_getElem hlt]
theorem row3 {row : List Int} (h : okRow K3 row) : [row.getD 0 0, row.getD 1 0, row.getD 2 0] = row := by
  obtain ⟨a, b, c, rfl⟩ := three h; rfl
theorem rank_step {L : Tab} {id a i : Int} (h : 0 ≤ i) (hi : i < L.length) (hc : aheadB ((L.getD i.toNat []).getD 0 0) ((L.getD i.toNat []).getD 1 0) id a = true) : rankF L id a i = rankF L id a (i + 1) := by
  unfold rankF
  rw [drop_step h hi, List.takeWhile_cons, if_pos (by exact hc), List.length_cons]
  omega
theorem rank_stop {L : Tab} {id a i : Int} (h : 0 ≤ i) (hc : ¬ i < L.length ∨ aheadB ((L.getD i.toNat []).getD 0 0) ((L.getD i.toNat []).getD 1 0) id a = false) : rankF L id a i = i := by
  unfold rankF
  by_cases hi : i < L.length
  · have hc := hc.resolve_left (fun x => x hi)
    rw [drop_step h hi, List.takeWhile_cons, if_neg (by show ¬ aheadB _ _ id a = true; rw [hc]; simp)]; simp
  · rw [List.drop_of_length_le (by omega)]; simp
theorem take_while (p : List Int → Bool) : ∀ A : Tab, A.take (A.takeWhile p).length = A.takeWhile p ∧ A.drop (A.takeWhile p).length = A.dropWhile p
  | [] => ⟨rfl, rfl⟩
  | a :: A => by
    have := take_while p A
    rw [List.takeWhile_cons, List.dropWhile_cons]
    split
    · exact ⟨by rw [List.length_cons, List.take_succ_cons, this.1], by rw [List.length_cons, List.drop_succ_cons, this.2]⟩
    · exact ⟨rfl, rfl⟩
theorem insF_eq (id a t : Int) (L : Tab) : insF id a t L = L.take (rankF L id a 0).toNat ++ [id, a, t] :: L.drop (rankF L id a 0).toNat := by
  have h : (rankF L id a 0).toNat = (L.takeWhile fun r => aheadR r id a).length := by unfold rankF; simp
  have hw := take_while (fun r => aheadR r id a) L
  rw [h, hw.1, hw.2]; rfl
theorem insF_len (id a t : Int) (L : Tab) : (insF id a t L).length = L.length + 1 := by
  rw [insF_eq]
  simp
  omega
theorem mod_mid (f : List Int → List Int) (y : List Int) (D : Tab) : ∀ A : Tab, ∀ n, A.length = n → (A ++ y :: D).modify n f = A ++ f y :: D
  | [], _, rfl => by rw [List.length_nil, List.nil_append, List.nil_append, List.modify_zero_cons]
  | a :: A, _, rfl => by rw [List.length_cons, List.cons_append, List.modify_succ_cons, mod_mid f y D A _ rfl, List.cons_append]
theorem ins_copy {L : Tab} {id a t r : Int} (hL : ∀ s ∈ L, okRow K3 s) (h0 : 0 ≤ r) (h1 : r ≤ L.length) :
    (((copyT (L ++ [[id, a, t]]) (r + 1).toNat (((L ++ [[id, a, t]]).drop r.toNat).take ((L.length : Int) + 1 - (r + 1)).toNat)).modify r.toNat fun row => row.set (0 : Int).toNat id).modify r.toNat fun row => row.set (1 : Int).toNat a).modify r.toNat (fun row => row.set (2 : Int).toNat t)
      = L.take r.toNat ++ [id, a, t] :: L.drop r.toNat := by
  obtain ⟨k, rfl⟩ : ∃ k : Nat, r = k := ⟨r.toNat, by omega⟩
  have hk : k ≤ L.length := by omega
  have e1 : ((k : Int) + 1).toNat = k + 1 := by omega
  have e2 : ((L.length : Int) + 1 - ((k : Int) + 1)).toNat = L.length - k := by omega
  rw [e1, e2, Int.toNat_natCast]
  have e3 : ((L ++ [[id, a, t]]).drop k).take (L.length - k) = L.drop k := by
    rw [List.drop_append_of_le_length hk, List.take_append_of_le_length (by simp), List.take_of_length_le (by simp)]
  rw [e3]
  have e4 : copyT (L ++ [[id, a, t]]) (k + 1) (L.drop k) = (L ++ [[id, a, t]]).take (k + 1) ++ L.drop k := by
    unfold copyT
    have h1 : k + 1 + (L.drop k).length = (L ++ [[id, a, t]]).length := by simp; omega
    rw [if_pos (Nat.le_of_eq h1), h1, List.drop_length, List.append_nil]
  rw [e4]
  obtain ⟨y0, y1, y2, e5⟩ : ∃ y0 y1 y2, (L ++ [[id, a, t]]).take (k + 1) = L.take k ++ [[y0, y1, y2]] := by
    rcases Nat.lt_or_ge k L.length with hlt | hge
    · obtain ⟨y0, y1, y2, hy⟩ := three (hL _ (List.getElem_mem hlt))
      refine ⟨y0, y1, y2, ?_⟩
      rw [List.take_append_of_le_length (by omega), List.take_add_one, List.getElem?_eq_getElem hlt, hy]; rfl
    · have : k = L.length := by omega
      subst this
      exact ⟨id, a, t, by rw [List.take_length, List.take_of_length_le (by simp)]⟩
  have hl : (L.take k).length = k := by rw [List.length_take]; omega
  rw [e5, List.append_assoc, List.singleton_append, mod_mid _ _ _ _ _ hl, mod_mid _ _ _ _ _ hl, mod_mid _ _ _ _ _ hl]
  rfl

/-! ### Tick -/
theorem trich {i1 a1 i2 a2 : Int} (h : i1 ≠ i2) (hb : aheadB i1 a1 i2 a2 = false) : aheadB i2 a2 i1 a1 = true := by
  simp only [aheadB, Bool.or_eq_false_iff, Bool.and_eq_false_iff, decide_eq_false_iff_not, Bool.or_eq_true, Bool.and_eq_true, decide_eq_true_eq] at *
  omega
theorem asym {i1 a1 i2 a2 : Int} (hb : aheadB i1 a1 i2 a2 = true) : aheadB i2 a2 i1 a1 = false := by
  simp only [aheadB, Bool.or_eq_false_iff, Bool.and_eq_false_iff, decide_eq_false_iff_not, Bool.or_eq_true, Bool.and_eq_true, decide_eq_true_eq] at *
  omega
theorem trans {i1 a1 i2 a2 i3 a3 : Int} (h1 : aheadB i1 a1 i2 a2 = true) (h2 : aheadB i2 a2 i3 a3 = true) : aheadB i1 a1 i3 a3 = true := by
  simp only [aheadB, Bool.or_eq_true, Bool.and_eq_true, decide_eq_true_eq] at *
  omega
theorem ins_cons (id a t : Int) (y : List Int) (L : Tab) : insF id a t (y :: L) = if aheadR y id a then y :: insF id a t L else [id, a, t] :: y :: L := by
  unfold insF
  rw [List.takeWhile_cons, List.dropWhile_cons]
  split
  · rfl
  · rfl
theorem ins_nil (id a t : Int) : insF id a t [] = [[id, a, t]] := rfl
theorem ins_swap1 {i1 a1 t1 i2 a2 t2 : Int} (h : aheadB i1 a1 i2 a2 = true) : ∀ L : Tab, insF i1 a1 t1 (insF i2 a2 t2 L) = insF i2 a2 t2 (insF i1 a1 t1 L)
  | [] => by
    have h' := asym h
    rw [ins_nil, ins_nil, ins_cons, ins_cons]
    rw [if_neg (by show ¬ aheadB i2 a2 i1 a1 = true; rw [h']; simp), if_pos (show aheadR [i1, a1, t1] i2 a2 = true from h), ins_nil]
  | y :: L => by
    have h' := asym h
    have n1 : ¬ aheadR [i2, a2, t2] i1 a1 = true := by show ¬ aheadB i2 a2 i1 a1 = true; rw [h']; simp
    have p1 : aheadR [i1, a1, t1] i2 a2 = true := h
    by_cases ha : aheadR y i1 a1 = true
    · have hb : aheadR y i2 a2 = true := trans ha h
      rw [ins_cons i2, if_pos hb, ins_cons i1, if_pos ha, ins_swap1 h L, ins_cons i1, if_pos ha, ins_cons i2, if_pos hb]
    · by_cases hb : aheadR y i2 a2 = true
      · rw [ins_cons i2, if_pos hb, ins_cons i1, if_neg ha, ins_cons i1, if_neg ha, ins_cons i2, if_pos p1, ins_cons i2, if_pos hb]
      · rw [ins_cons i2, if_neg hb, ins_cons i1, if_neg n1, ins_cons i1, if_neg ha, ins_cons i2, if_pos p1, ins_cons i2, if_neg hb]
theorem ins_swap {i1 a1 t1 i2 a2 t2 : Int} (h : i1 ≠ i2) (L : Tab) : insF i1 a1 t1 (insF i2 a2 t2 L) = insF i2 a2 t2 (insF i1 a1 t1 L) := by
  cases hb : aheadB i1 a1 i2 a2 with
  | true => exact ins_swap1 hb L
  | false => exact (ins_swap1 (trich h hb) L).symm
theorem fire_len (now : Int) (r : List Int) (L : Tab) : (fireR now r L).length = L.length + 1 := insF_len ..
theorem fires_len (now : Int) (L : Tab) : ∀ D : Tab, (D.foldr (fireR now) L).length = L.length + D.length
  | [] => rfl
  | r :: D => by rw [List.foldr_cons, fire_len, fires_len now L D, List.length_cons]; omega
theorem fires_in {now id a t : Int} (L : Tab) : ∀ D : Tab, (∀ r ∈ D, hdK r ≠ id) → insF id a t (D.foldr (fireR now) L) = D.foldr (fireR now) (insF id a t L)
  | [], _ => rfl
  | r :: D, h => by
    rw [List.foldr_cons, List.foldr_cons, ← fires_in L D fun s hs => h s (List.mem_cons_of_mem _ hs)]
    exact ins_swap (fun e => h r (by simp) e.symm) _
theorem tickO_len (now : Int) (L M : Tab) : (tickO now L M).length ≤ L.length + (remT M).length := by
  unfold tickO
  rw [fires_len]
  have := List.length_filter_le (dueB now) (remT M)
  omega
section
variable {A B L : Tab} {x a e now : Int}
theorem rem_1 : remT (A ++ [x, a, e, 1] :: B) = remT A ++ [x, a, e, 1] :: remT B := by
  rw [remT_app]; congr 1
theorem rem_0 : remT (A ++ [x, a, e, 0] :: B) = remT A ++ remT B := by
  rw [remT_app]; congr 1
theorem rem_2 : remT (A ++ B) = remT A ++ remT B := remT_app ..
theorem tick_not (h : ¬ a ≤ now) : tickO now L (A ++ [x, a, e, 1] :: B) = tickO now L (A ++ [x, a, e, 0] :: B) := by
  unfold tickO
  rw [rem_1, rem_0, List.filter_append, List.filter_append, List.filter_cons, if_neg (by simp [dueB]; omega)]
theorem due_in (hB : ∀ r ∈ B, x < hdK r) : ∀ r ∈ (remT B).filter (dueB now), hdK r ≠ x := fun r h => by
  have := hB r (List.mem_filter.1 (List.mem_filter.1 h).1).1
  omega
theorem tick_one (h : a ≤ now) (hB : ∀ r ∈ B, x < hdK r) {t : Int} (ht : t = if e = 0 then 1 else timesI a e now) : tickO now L (A ++ [x, a, e, 1] :: B) = tickO now (insF x a t L) (A ++ B) := by
  unfold tickO
  rw [rem_1, rem_2, List.filter_append, List.filter_append, List.filter_cons, if_pos (by simp [dueB]; omega), List.foldr_append, List.foldr_append, List.foldr_cons]
  congr 1
  rw [← fires_in _ _ (due_in hB), ht]
  rfl
theorem tick_mid {e' a' : Int} : tickO now L (A ++ [x, a', e', 0] :: B) = tickO now L (A ++ B) := by
  unfold tickO
  rw [rem_0, rem_2]
theorem tickM_not (h : ¬ a ≤ now) : tickM now (A ++ [x, a, e, 1] :: B) = tickM now (A ++ [x, a, e, 0] :: B) := by
  unfold tickM
  rw [List.filterMap_append, List.filterMap_append, List.filterMap_cons, List.filterMap_cons]
  simp [lastK, stepR, dueB, h]
theorem tickM_gone (h : a ≤ now) : tickM now (A ++ [x, a, 0, 1] :: B) = tickM now (A ++ B) := by
  unfold tickM
  rw [List.filterMap_append, List.filterMap_append, List.filterMap_cons]
  simp [lastK, stepR, dueB, h]
theorem tickM_next (h : a ≤ now) (he : ¬ e = 0) : tickM now (A ++ [x, a, e, 1] :: B) = tickM now (A ++ [x, nextI a e now, e, 0] :: B) := by
  unfold tickM
  rw [List.filterMap_append, List.filterMap_append, List.filterMap_cons, List.filterMap_cons]
  simp [lastK, stepR, dueB, h, he, hdK]
end
theorem tickM_id {M : Tab} {now : Int} (h : ∀ r ∈ M, ∃ a b c, r = [a, b, c, 0]) : tickM now M = M := by
  unfold tickM
  induction M with
  | nil => rfl
  | cons r M ih =>
    obtain ⟨a, b, c, rfl⟩ := h r (by simp)
    rw [List.filterMap_cons, if_pos (show lastK [a, b, c, 0] = 0 from rfl)]
    show [a, b, c, 0] :: _ = _
    rw [ih fun s hs => h s (List.mem_cons_of_mem _ hs)]
theorem tickO_id {M L : Tab} {now : Int} (h : remT M = []) : tickO now L M = L := by unfold tickO; rw [h]; rfl
theorem tickL_flag {A : Tab} (hA : ∀ r ∈ A, okRow K3 r) (now : Int) : tickL A now = tickO now [] (flagT A) := by
  unfold tickL tickO
  rw [rem_flag]
  unfold flagT
  induction A with
  | nil => rfl
  | cons r A ih =>
    have hf := flag_row hA r (by simp)
    have ih := ih fun s hs => hA s (List.mem_cons_of_mem _ hs)
    have hd : dueB now (r ++ [1]) = dueB now r := by unfold dueB; rw [hf.1]
    rw [List.map_cons, List.filter_cons, List.filter_cons, hd]
    split
    · rw [List.foldr_cons, List.foldr_cons, ih]
      unfold fireR; rw [hf.1, hf.2.1, hf.2.2.1]
    · exact ih
theorem tickT_flag {A : Tab} (hA : ∀ r ∈ A, okRow K3 r) (now : Int) : tickT A now = unflagT (tickM now (flagT A)) := by
  unfold tickT tickM flagT unflagT
  induction A with
  | nil => rfl
  | cons r A ih =>
    have hf := flag_row hA r (by simp)
    have ih := ih fun s hs => hA s (List.mem_cons_of_mem _ hs)
    rw [List.map_cons, List.filterMap_cons, List.filterMap_cons, hf.2.2.2.1, hf.2.2.2.2, if_neg (by decide)]
    cases hs : stepR now r with
    | none => simp only [Option.map_none]; exact ih
    | some s => simp only [Option.map_some, List.map_cons, List.dropLast_concat]; rw [ih]
theorem tickT_len (A : Tab) (now : Int) : (tickT A now).length ≤ A.length := List.length_filterMap_le ..
theorem remT_len (M : Tab) : (remT M).length ≤ M.length := List.length_filter_le ..

/-! ### rows one by one -/
theorem take_end {A : Tab} {i : Int} (hi : ¬ i < A.length) : A.take i.toNat = A := List.take_of_length_le (by omega)
theorem row3_eq {r s : List Int} (hr : okRow K3 r) (hs : okRow K3 s) : r = s ↔ r.getD 0 0 = s.getD 0 0 ∧ r.getD 1 0 = s.getD 1 0 ∧ r.getD 2 0 = s.getD 2 0 := by
  obtain ⟨a, b, c, rfl⟩ := three hr
  obtain ⟨d, e, f, rfl⟩ := three hs
  simp [List.getD]
theorem eq_step {A B : Tab} {i : Int} (hA : ∀ r ∈ A, okRow K3 r) (hB : ∀ r ∈ B, okRow K3 r) (h : 0 ≤ i) (hi : i < A.length) (hl : (A.length : Int) = B.length) :
    A.drop i.toNat = B.drop i.toNat ↔ ((A.getD i.toNat []).getD 0 0 = (B.getD i.toNat []).getD 0 0 ∧ (A.getD i.toNat []).getD 1 0 = (B.getD i.toNat []).getD 1 0 ∧ (A.getD i.toNat []).getD 2 0 = (B.getD i.toNat []).getD 2 0) ∧ A.drop (i + 1).toNat = B.drop (i + 1).toNat := by
  rw [drop_step (A := A) h hi, drop_step (A := B) h (by omega), List.cons.injEq, row3_eq (hA _ (getD_mem h hi)) (hB _ (getD_mem h (by omega)))]
theorem eq_end {A B : Tab} {i : Int} (hi : ¬ i < A.length) (hl : (A.length : Int) = B.length) : A.drop i.toNat = B.drop i.toNat := by
  rw [List.drop_of_length_le (by omega), List.drop_of_length_le (by omega)]

/-! ### a timer that fires once -/
theorem once_T {k x y : Int} (hk : 0 ≤ k) (hx : 0 ≤ x) (hx' : x ≤ 65535) (hy : 0 ≤ y) (hy' : y ≤ 65535) :
    armI k (x + 1) 0 0 = 0 ∧ armI k (y + 1) 0 0 = 0 ∧ armT (armT [] k (x + 1) 0 0) k (y + 1) 0 0 = [[k, y + 1, 0]] := by
  have h1 := arm_yes (T := []) (id := k) (at' := x + 1) (every := 0) (now := 0) (by omega)
  have h2 := arm_yes (T := [[k, x + 1, 0]]) (id := k) (at' := y + 1) (every := 0) (now := 0) (by omega)
  refine ⟨h1.1, h2.1, ?_⟩
  rw [h1.2, show putK [] [k, x + 1, 0] = [[k, x + 1, 0]] from rfl, h2.2]
  simp [putK, hdK]
theorem once_least {k y : Int} (hy : y ≤ 65535) : leastI [[k, y + 1, 0]] = y + 1 := by
  simp [leastI]; omega
theorem once_not {k y : Int} : tickL [[k, y + 1, 0]] y = [] ∧ tickT [[k, y + 1, 0]] y = [[k, y + 1, 0]] := by
  have h : ¬ y + 1 ≤ y := by omega
  constructor
  · simp [tickL, dueB, h]
  · simp [tickT, stepR, dueB, h]
theorem once_now {k y : Int} : tickL [[k, y + 1, 0]] (y + 1) = [[k, y + 1, 1]] ∧ tickT [[k, y + 1, 0]] (y + 1) = [] := by
  constructor
  · simp [tickL, dueB, fireR, hdK, insF]
  · simp [tickT, stepR, dueB]

/-! ### credits -/
theorem cr_put (C : Tab) (k n : Int) : crI (putK C [k, n]) k = n := by
  have : findK (putK C [k, n]) k = [[k, n]] := by
    unfold findK putK
    rw [List.filter_append, List.filter_cons, if_pos (by simp [hdK]), List.filter_filter, List.filter_filter, filter_nil fun r _ => ?_, filter_nil fun r _ => ?_]
    · rfl
    all_goals
      show (decide (hdK r = k) && decide _) = false
      rw [Bool.and_eq_false_iff, decide_eq_false_iff_not, decide_eq_false_iff_not]
      simp only [show hdK [k, n] = k from rfl]
      omega
  unfold crI; rw [this]; rfl
theorem bound_put {C : Tab} {n i q : Int} (h1 : -(40000 * i) ≤ n) (h2 : n ≤ q * 1000) : boundB (putK C [5, n]) i q = true := by
  unfold boundB; rw [cr_put, Bool.and_eq_true, decide_eq_true_eq, decide_eq_true_eq]; exact ⟨h1, h2⟩
theorem bound_at {C : Tab} {i q : Int} (h : boundB C i q = true) : -(40000 * i) ≤ crI C 5 ∧ crI C 5 ≤ q * 1000 := by
  unfold boundB at h; rwa [Bool.and_eq_true, decide_eq_true_eq, decide_eq_true_eq] at h
theorem w16 {x : Int} (h0 : 0 ≤ x) (h1 : x ≤ 65535) : IntKind.u16.wrap (x.tdiv 2) = x.tdiv 2 ∧ 0 ≤ x.tdiv 2 ∧ x.tdiv 2 ≤ 32767 := by
  have : x.tdiv 2 = x / 2 := Int.tdiv_eq_ediv_of_nonneg h0
  have h2 : 0 ≤ x / 2 ∧ x / 2 ≤ 32767 := by omega
  rw [this, wrap_in (by simp only [kmin]; omega) (by simp only [kmax]; omega)]
  exact ⟨rfl, h2⟩
theorem more_eq {q w : Int} (hq : 1 ≤ q) (hq' : q ≤ 256) : moreI q w = q * max 1 (min w 1000) ∧ 1 ≤ moreI q w ∧ moreI q w ≤ q * 1000 := by
  have h1 : 1 ≤ max 1 (min w 1000) := by omega
  have h2 : max 1 (min w 1000) ≤ 1000 := by omega
  have h3 : q * 1 ≤ q * max 1 (min w 1000) := Int.mul_le_mul_of_nonneg_left h1 (by omega)
  have h4 : q * max 1 (min w 1000) ≤ q * 1000 := Int.mul_le_mul_of_nonneg_left h2 (by omega)
  have e : moreI q w = q * max 1 (min w 1000) := wrap_in (by simp only [kmin]; omega) (by simp only [kmax]; omega)
  rw [e]; exact ⟨rfl, by omega, h4⟩
theorem rf_eq {C : Tab} {q w i : Int} (hq : 1 ≤ q) (hq' : q ≤ 256) (hb : boundB C i q = true) (hi : 0 ≤ i) (hi' : i ≤ 100) : rfI C 5 q w = min (moreI q w) (crI C 5 + moreI q w) := by
  have h1 := bound_at hb
  have h2 := more_eq (w := w) hq hq'
  unfold rfI
  have e : W (crI C 5 + moreI q w) = crI C 5 + moreI q w := wrap_in (by simp only [kmin]; omega) (by simp only [kmax]; omega)
  rw [e]
theorem ch_eq {C : Tab} {q t i : Int} (hq : 1 ≤ q) (hq' : q ≤ 256) (hb : boundB C i q = true) (hi : 0 ≤ i) (hi' : i ≤ 100) (h0 : 0 ≤ t) (h1 : t ≤ 1000000) : chI C 5 t = crI C 5 - t ∧ W (crI C 5 - t) = crI C 5 - t := by
  have h2 := bound_at hb
  have e : max 0 (min t 1073741824) = t := by omega
  have w : W (crI C 5 - t) = crI C 5 - t := wrap_in (by simp only [kmin]; omega) (by simp only [kmax]; omega)
  unfold chI
  rw [e, w]
  exact ⟨by omega, rfl⟩
theorem bound_100 {C : Tab} {i q : Int} (h : boundB C i q = true) (hi : i ≤ 100) : boundB C 100 q = true := by
  have := bound_at h
  unfold boundB; rw [Bool.and_eq_true, decide_eq_true_eq, decide_eq_true_eq]; omega
theorem bound_nil {q : Int} (hq : 0 ≤ q) : boundB [] 0 q = true := by
  unfold boundB; rw [Bool.and_eq_true, decide_eq_true_eq, decide_eq_true_eq, show crI [] 5 = 0 from rfl]; omega

end Go.SF.C18
