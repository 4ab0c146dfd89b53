/- The document's answer of chapter 15: what it computes is what the package does; in plain Lean. -/
import Derived.Test.YtfngkeegfjihlaaP6
namespace Go.SF.C15
open Go.SF
set_option linter.unusedVariables false

section
variable {Q O : Tab} {n c i k id t p x : Int}
/-- A queue as asks of three cells. -/
theorem three : ∀ (m : Nat) (q : List Int), q.length = 3 * m → ∃ S : Tab, S.length = m ∧ (∀ r ∈ S, r.length = 3) ∧ S.flatten = q ∧ idsT q = S.map hdK
  | 0, q, h => by
    have : q = [] := List.eq_nil_of_length_eq_zero (by omega)
    subst this
    exact ⟨[], rfl, by simp, rfl, rfl⟩
  | m + 1, q, h => by
    match q, h with
    | a :: b :: d :: q, h =>
      obtain ⟨S, h1, h2, h3, h4⟩ := three m q (by simp at h; omega)
      refine ⟨[a, b, d] :: S, by simp [h1], fun r hr => ?_, by simp [h3], by simp [idsT, h4, hdK]⟩
      rcases List.mem_cons.1 hr with rfl | hr
      · rfl
      · exact h2 r hr
    | [], h => simp at h
    | [_], h => simp at h; omega
    | [_, _], h => simp at h; omega
theorem rowN_get (Q : Tab) (c : Int) : rowN 3 Q c = chunkN 3 (rowL Q c) := rfl
theorem flat3 (S : Tab) : flatN 3 S = S.flatten := rfl
theorem chunk_flat (q : List Int) : (chunkN 3 q).flatten = q := flatN_chunk (n := 3) (by decide) q
structure Row3 (Q : Tab) (n c : Int) (S : Tab) : Prop where
  e : rowN 3 Q c = S
  l : S.length ≤ 16
  r : ∀ r ∈ S, r.length = 3
  q : rowL Q c = S.flatten
  i : idsT (rowL Q c) = S.map hdK
  b : ∀ x ∈ S.map hdK, 1 ≤ x ∧ x ≤ n
theorem rq_row (h : rqB Q n = true) (h0 : 0 ≤ c) (h1 : c < Q.length) : ∃ S, Row3 Q n c S := by
  unfold rqB at h
  rw [List.all_eq_true] at h
  have hm := row_mem h0 h1
  have hq := h _ hm
  simp only [rowQ, Bool.and_eq_true, decide_eq_true_eq, List.all_eq_true] at hq
  obtain ⟨h2, h3, h4, h5⟩ := hq
  obtain ⟨S, g1, g2, g3, g4⟩ := three ((rowL Q c).length / 3) (rowL Q c) (by omega)
  refine ⟨S, ?_, by omega, g2, g3.symm, g4, fun x hx => h5 x (by rw [g4]; exact hx)⟩
  rw [rowN_get, ← g3, ← flat3]
  exact chunkN_flat (by decide) S g2
theorem st_rq (h : stQ Q O = true) : rqB Q O.length = true := by
  unfold stQ at h
  rw [Bool.and_eq_true] at h
  exact h.1
theorem len3 {S : Tab} (h : ∀ r ∈ S, r.length = 3) : S.flatten.length = 3 * S.length := by
  induction S with
  | nil => rfl
  | cons r S ih =>
    have h1 := h r (List.mem_cons_self ..)
    have h2 := ih fun x hx => h x (List.mem_cons_of_mem _ hx)
    rw [List.flatten_cons, List.length_append, List.length_cons]
    omega
theorem lenQ_row (h : rqB Q n = true) (h0 : 0 ≤ c) (h1 : c < Q.length) : lenQ Q c = (rowN 3 Q c).length ∧ (rowN 3 Q c).length ≤ 16 := by
  obtain ⟨S, hS⟩ := rq_row h h0 h1
  have := len3 hS.r
  unfold lenQ
  rw [hS.e, hS.q]
  refine ⟨?_, hS.l⟩
  omega
theorem out_row (h1 : ¬ c < Q.length) (h0 : 0 ≤ c) : rowN 3 Q c = [] := by
  rw [rowN_get]
  unfold rowL
  rw [List.getD_eq_getElem?_getD, List.getElem?_eq_none (by omega)]
  rfl
/-! ### no row too long -/
theorem low_iff : lowB Q i = true ↔ ∀ j : Nat, j < Q.length → i ≤ j → (rowN 3 Q j).length ≤ 16 := by
  unfold lowB
  rw [List.all_eq_true]
  constructor
  · intro h j hj hi
    have := h j (List.mem_range.2 hj)
    simp only [Bool.or_eq_true, decide_eq_true_eq] at this
    omega
  · intro h j hj
    have := h j (List.mem_range.1 hj)
    simp only [Bool.or_eq_true, decide_eq_true_eq]
    omega
theorem low_row (h : lowB Q i = true) (h0 : 0 ≤ i) {j : Int} (hj : i ≤ j) : ((rowN 3 Q j).length : Int) ≤ 40 := by
  by_cases hl : j < Q.length
  · have := low_iff.1 h j.toNat (by omega) (by omega)
    rw [show ((j.toNat : Nat) : Int) = j by omega] at this
    omega
  · rw [out_row hl (by omega)]; decide
theorem low_next (h : lowB Q i = true) : lowB Q (i + 1) = true := low_iff.2 fun j hj hi => low_iff.1 h j hj (by omega)
theorem row_set {X : List Int} {j : Int} (h0 : 0 ≤ i) (hj : 0 ≤ j) (hne : ¬ j = i) : rowL (Q.set i.toNat X) j = rowL Q j := by
  unfold rowL
  rw [List.getD_eq_getElem?_getD, List.getElem?_set_ne (by omega), List.getD_eq_getElem?_getD]
theorem low_set {X : Tab} (h : lowB Q i = true) (h0 : 0 ≤ i) : lowB (setN 3 Q i X) (i + 1) = true := by
  refine low_iff.2 fun j hj hi => ?_
  rw [setN_len] at hj
  have := low_iff.1 h j hj (by omega)
  rw [rowN_get] at this ⊢
  unfold setN
  rw [row_set h0 (by omega) (by omega)]
  exact this
theorem low_set_row {X : Tab} (h : lowB Q i = true) (h0 : 0 ≤ i) : ((rowN 3 (setN 3 Q i X) (i + 1)).length : Int) ≤ 40 := low_row (low_set h h0) (by omega) (Int.le_refl _)
theorem rq_low (h : rqB Q n = true) : lowB Q 0 = true := low_iff.2 fun j hj _ => (lenQ_row h (c := j) (by omega) (by omega)).2
/-! ### is there a full one? -/
theorem ful_iff : fullG Q c i = true ↔ ∃ j : Nat, j < Q.length ∧ i ≤ (j : Int) ∧ ¬ (j : Int) = c ∧ 16 ≤ (rowN 3 Q j).length := by
  unfold fullG
  rw [List.any_eq_true]
  constructor
  · rintro ⟨j, hj, h⟩
    simp only [Bool.and_eq_true, decide_eq_true_eq, Bool.not_eq_true', decide_eq_false_iff_not] at h
    exact ⟨j, List.mem_range.1 hj, h.1, h.2.1, h.2.2⟩
  · rintro ⟨j, hj, h1, h2, h3⟩
    refine ⟨j, List.mem_range.2 hj, ?_⟩
    simp only [Bool.and_eq_true, decide_eq_true_eq, Bool.not_eq_true', decide_eq_false_iff_not]
    exact ⟨h1, h2, h3⟩
theorem ful_step (h0 : 0 ≤ i) (h1 : i < Q.length) : fullG Q c i = ((!decide (i = c) && decide (16 ≤ (rowN 3 Q i).length)) || fullG Q c (i + 1)) := by
  rw [Bool.eq_iff_iff, Bool.or_eq_true, ful_iff, ful_iff]
  simp only [Bool.and_eq_true, decide_eq_true_eq, Bool.not_eq_true', decide_eq_false_iff_not]
  constructor
  · rintro ⟨j, hj, g1, g2, g3⟩
    by_cases e : (j : Int) = i
    · rw [e] at g2 g3; exact .inl ⟨g2, g3⟩
    · exact .inr ⟨j, hj, by omega, g2, g3⟩
  · rintro (⟨g1, g2⟩ | ⟨j, hj, g1, g2, g3⟩)
    · refine ⟨i.toNat, by omega, by omega, ?_, ?_⟩ <;> rw [show ((i.toNat : Nat) : Int) = i by omega]
      · exact g1
      · exact g2
    · exact ⟨j, hj, by omega, g2, g3⟩
theorem ful_end (h1 : ¬ i < Q.length) : fullG Q c i = false := by
  rw [Bool.eq_false_iff]
  intro h
  obtain ⟨j, hj, g, _⟩ := ful_iff.1 h
  omega
theorem ful_eq (h : rqB Q n = true) : fullQ Q c = fullG Q c 0 := by
  rw [Bool.eq_iff_iff, full_iff, ful_iff]
  have key : ∀ j : Nat, j < Q.length → ((Q.getD j []).length = 48 ↔ 16 ≤ (rowN 3 Q j).length) := fun j hj => by
    obtain ⟨S, hS⟩ := rq_row h (c := j) (by omega) (by omega)
    have h3 := len3 hS.r
    have e : Q.getD j [] = S.flatten := by
      have := hS.q
      unfold rowL at this
      simpa using this
    rw [e, hS.e]
    have := hS.l
    omega
  constructor
  · rintro ⟨j, hj, g1, g2⟩
    exact ⟨j, hj, by omega, g1, (key j hj).1 g2⟩
  · rintro ⟨j, hj, _, g1, g2⟩
    exact ⟨j, hj, g1, (key j hj).2 g2⟩
/-! ### Post -/
theorem postG_len : (postG Q c id t p i).length = Q.length := by simp [postG]
theorem postG_at (j : Nat) : (postG Q c id t p i)[j]? = (Q[j]?).map fun q => if (j : Int) = c ∨ (j : Int) < i then q else q ++ [id, t, p] := by
  simp [postG, List.getElem?_mapIdx]
theorem post_skip (h : i = c) (h0 : 0 ≤ i) : postG Q c id t p i = postG Q c id t p (i + 1) := by
  apply List.ext_getElem?
  intro j
  rw [postG_at, postG_at]
  cases Q[j]? with
  | none => rfl
  | some q =>
    simp only [Option.map_some]
    by_cases e : (j : Int) = c ∨ (j : Int) < i
    · rw [if_pos e, if_pos (by omega)]
    · rw [if_neg e, if_neg (by omega)]
theorem set_app (h0 : 0 ≤ i) : setN 3 Q i (rowN 3 Q i ++ [[id, t, p]]) = Q.set i.toNat (rowL Q i ++ [id, t, p]) := by
  unfold setN
  rw [flat3, List.flatten_append, rowN_get, chunk_flat]
  rfl
theorem post_do (hne : ¬ i = c) (h0 : 0 ≤ i) (h1 : i < Q.length) : postG Q c id t p i = postG (setN 3 Q i (rowN 3 Q i ++ [[id, t, p]])) c id t p (i + 1) := by
  rw [set_app h0]
  apply List.ext_getElem?
  intro j
  rw [postG_at, postG_at]
  by_cases e : i.toNat = j
  · subst e
    rw [List.getElem?_set_self (by omega)]
    have : Q[i.toNat]? = some (rowL Q i) := by
      unfold rowL; rw [List.getD_eq_getElem?_getD, List.getElem?_eq_getElem (by omega)]; rfl
    rw [this]
    simp only [Option.map_some]
    rw [if_neg (by omega), if_pos (by omega)]
  · rw [List.getElem?_set_ne e]
    cases Q[j]? with
    | none => rfl
    | some q =>
      simp only [Option.map_some]
      by_cases e2 : (j : Int) = c ∨ (j : Int) < i
      · rw [if_pos e2, if_pos (by omega)]
      · rw [if_neg e2, if_neg (by omega)]
theorem post_end (h1 : ¬ i < Q.length) : postG Q c id t p i = Q := by
  apply List.ext_getElem?
  intro j
  rw [postG_at]
  cases hq : Q[j]? with
  | none => rfl
  | some q =>
    have := (List.getElem?_eq_some_iff.1 hq).1
    simp only [Option.map_some]
    rw [if_pos (by omega)]
theorem post_eq : postQ Q c id t p = postG Q c id t p 0 := by
  apply List.ext_getElem?
  intro j
  rw [postG_at]
  simp only [postQ, List.getElem?_mapIdx]
  cases Q[j]? with
  | none => rfl
  | some q =>
    simp only [Option.map_some]
    by_cases e : (j : Int) = c
    · rw [if_pos e, if_pos (.inl e)]
    · rw [if_neg e, if_neg (by omega)]
/-! ### Take -/
theorem take_msg (h : rqB Q n = true) (h0 : 0 ≤ c) (h1 : c < Q.length) (h2 : ¬ ((rowN 3 Q c).length : Int) = 0) :
    msgQ Q c 0 = ((rowN 3 Q c).getD (Int.toNat 0) []).getD 0 0 ∧ msgQ Q c 1 = ((rowN 3 Q c).getD (Int.toNat 0) []).getD 1 0 ∧ msgQ Q c 2 = ((rowN 3 Q c).getD (Int.toNat 0) []).getD 2 0 := by
  obtain ⟨S, hS⟩ := rq_row h h0 h1
  unfold msgQ
  rw [hS.e] at h2 ⊢
  rw [hS.q]
  match S, hS.r, h2 with
  | [], _, h2 => exact absurd rfl h2
  | r :: S, hr, _ =>
    have := hr r (List.mem_cons_self ..)
    match r, this with
    | [a, b, d], _ => exact ⟨rfl, rfl, rfl⟩
theorem take_eq (h : rqB Q n = true) (h0 : 0 ≤ c) (h1 : c < Q.length) : takeQ Q c = setN 3 Q c ((rowN 3 Q c).drop (Int.toNat 1)) := by
  obtain ⟨S, hS⟩ := rq_row h h0 h1
  unfold setN takeQ
  rw [flat3, hS.e]
  have e : (S.drop (Int.toNat 1)).flatten = (rowL Q c).drop 3 := by
    rw [hS.q]
    match S, hS.r with
    | [], _ => rfl
    | r :: S, hr =>
      have := hr r (List.mem_cons_self ..)
      match r, this with
      | [a, b, d], _ => rfl
  rw [e]
  apply List.ext_getElem?
  intro j
  rw [List.getElem?_modify]
  by_cases hj : c.toNat = j
  · subst hj
    rw [List.getElem?_set_self (by omega)]
    unfold rowL
    rw [List.getD_eq_getElem?_getD, List.getElem?_eq_getElem (by omega)]
    simp
  · rw [List.getElem?_set_ne hj]
    cases Q[j]? <;> simp [hj]
/-! ### Done -/
theorem inR_step (h0 : 0 ≤ k) (h1 : k < (rowN 3 Q i).length) : inR Q i k id = (decide (((rowN 3 Q i).getD k.toNat []).getD 0 0 = id) || inR Q i (k + 1) id) := by
  unfold inR
  rw [drop_at (d := []) h0 h1, List.any_cons]
theorem inR_end (h1 : ¬ k < (rowN 3 Q i).length) : inR Q i k id = false := by
  unfold inR
  rw [List.drop_of_length_le (by omega)]
  rfl
theorem inA_iff : inA Q i id = true ↔ ∃ j : Nat, j < Q.length ∧ i ≤ (j : Int) ∧ inR Q j 0 id = true := by
  unfold inA
  rw [List.any_eq_true]
  constructor
  · rintro ⟨j, hj, h⟩
    rw [Bool.and_eq_true, decide_eq_true_eq] at h
    exact ⟨j, List.mem_range.1 hj, h.1, h.2⟩
  · rintro ⟨j, hj, h1, h2⟩
    exact ⟨j, List.mem_range.2 hj, by rw [Bool.and_eq_true, decide_eq_true_eq]; exact ⟨h1, h2⟩⟩
theorem inA_step (h0 : 0 ≤ i) (h1 : i < Q.length) : inA Q i id = (inR Q i 0 id || inA Q (i + 1) id) := by
  rw [Bool.eq_iff_iff, Bool.or_eq_true, inA_iff, inA_iff]
  constructor
  · rintro ⟨j, hj, g1, g2⟩
    by_cases e : (j : Int) = i
    · rw [e] at g2; exact .inl g2
    · exact .inr ⟨j, hj, by omega, g2⟩
  · rintro (g | ⟨j, hj, g1, g2⟩)
    · exact ⟨i.toNat, by omega, by omega, by rw [show ((i.toNat : Nat) : Int) = i by omega]; exact g⟩
    · exact ⟨j, hj, by omega, g2⟩
theorem inA_end (h1 : ¬ i < Q.length) : inA Q i id = false := by
  rw [Bool.eq_false_iff]
  intro h
  obtain ⟨j, hj, g, _⟩ := inA_iff.1 h
  omega
theorem inR_ids (h : rqB Q n = true) (h0 : 0 ≤ c) (h1 : c < Q.length) : inR Q c 0 id = (idsT (rowL Q c)).contains id := by
  obtain ⟨S, hS⟩ := rq_row h h0 h1
  unfold inR
  rw [hS.e, hS.i, Bool.eq_iff_iff, List.any_eq_true]
  simp only [Int.toNat_zero, List.drop_zero, decide_eq_true_eq, List.contains_eq_mem, List.mem_map]
  constructor
  · rintro ⟨r, hr, e⟩; exact ⟨r, hr, by rw [← hd_get]; exact e⟩
  · rintro ⟨r, hr, e⟩; exact ⟨r, hr, by rw [hd_get]; exact e⟩
theorem cnt_in (h : rqB Q n = true) : cntQ Q id = 0 ↔ inA Q 0 id = false := by
  rw [Bool.eq_false_iff, Ne, inA_iff]
  unfold cntQ
  constructor
  · intro e hx
    obtain ⟨j, hj, _, g⟩ := hx
    rw [inR_ids h (by omega) (by omega)] at g
    have hm := row_mem (M := Q) (c := j) (by omega) (by omega)
    have : 0 < Q.countP fun q => (idsT q).contains id := List.countP_pos_iff.2 ⟨_, hm, g⟩
    omega
  · intro e
    have : Q.countP (fun q => (idsT q).contains id) = 0 := by
      rw [List.countP_eq_zero]
      intro q hq g
      obtain ⟨j, hj, rfl⟩ := List.getElem_of_mem hq
      refine e ⟨j, hj, by omega, ?_⟩
      rw [inR_ids h (by omega) (by omega)]
      have : rowL Q j = Q[j] := by unfold rowL; rw [List.getD_eq_getElem?_getD, Int.toNat_natCast, List.getElem?_eq_getElem hj]; rfl
      rw [this]; exact g
    omega
theorem st_cnt (h : stQ Q O = true) (h1 : 1 ≤ id) (h2 : id ≤ O.length) : (O.getD (id - 1).toNat []).getD 0 0 = cntQ Q id := by
  unfold stQ at h
  rw [Bool.and_eq_true, List.all_eq_true, List.all_eq_true] at h
  have := h.2 (id - 1).toNat (List.mem_range.2 (by omega))
  rw [decide_eq_true_eq] at this
  rw [this, show (((id - 1).toNat : Nat) : Int) + 1 = id by omega]
theorem cnt_nn : 0 ≤ cntQ Q id := by unfold cntQ; omega
theorem done_eq (h : stQ Q O = true) : doneB O id = doneR Q O.length id := by
  unfold doneB doneR
  by_cases h1 : 1 ≤ id
  · by_cases h2 : id ≤ O.length
    · have e := st_cnt h h1 h2
      rw [decide_eq_true h1, decide_eq_true h2, e]
      by_cases g : cntQ Q id = 0
      · rw [decide_eq_true g, (cnt_in (st_rq h)).1 g]; rfl
      · have : inA Q 0 id = true := by
          cases e2 : inA Q 0 id with
          | true => rfl
          | false => exact absurd ((cnt_in (st_rq h)).2 e2) g
        rw [decide_eq_false g, this]; rfl
    · rw [decide_eq_false h2]; simp
  · rw [decide_eq_false h1]; simp
/-! ### Open -/
theorem op_step (h1 : i ≤ n) : openR Q n i = (if doneR Q n i then [] else [[i]]) ++ openR Q n (i + 1) := by
  unfold openR
  rw [show (n + 1 - i).toNat = (n + 1 - (i + 1)).toNat + 1 by omega]
  rfl
theorem op_end (h1 : ¬ i ≤ n) : openR Q n i = [] := by
  unfold openR
  rw [show (n + 1 - i).toNat = 0 by omega]
  rfl
theorem op_len : ∀ (f : Nat) (i : Int), (openRN Q n f i).length ≤ f
  | 0, _ => Nat.le_refl _
  | f + 1, i => by
    have := op_len f (i + 1)
    unfold openRN
    rw [List.length_append]
    split <;> simp <;> omega
theorem open_eq (h : stQ Q O = true) : openT O 0 = openR Q O.length 1 := by
  have key : ∀ (f : Nat) (i : Nat), i + f = O.length → openN O f i = openRN Q O.length f ((i : Int) + 1) := by
    intro f
    induction f with
    | zero => intro i _; rfl
    | succ f ih =>
      intro i hi
      unfold openN openRN
      have e := ih (i + 1) (by omega)
      rw [e, ← done_eq h, show ((i + 1 : Nat) : Int) + 1 = (i : Int) + 1 + 1 by omega]
      congr 1
      have c := st_cnt h (id := (i : Int) + 1) (by omega) (by omega)
      have hn := cnt_nn (Q := Q) (id := (i : Int) + 1)
      unfold doneB
      rw [show ((i : Int) + 1 - 1).toNat = i by omega] at c ⊢
      rw [decide_eq_true (p := (1 : Int) ≤ (i : Int) + 1) (by omega), decide_eq_true (p := (i : Int) + 1 ≤ O.length) (by omega), c]
      by_cases g : cntQ Q ((i : Int) + 1) = 0
      · rw [if_neg (by omega), decide_eq_true g]; rfl
      · rw [if_pos (by omega), decide_eq_false g]; rfl
  unfold openT openR
  have := key O.length 0 (by omega)
  simpa using this
/-! ### rows of numbers -/
theorem pre_iff {A B : Tab} : preB A B i = true ↔ A.length = B.length ∧ A.take i.toNat = B.take i.toNat := by
  unfold preB; rw [Bool.and_eq_true, decide_eq_true_eq, decide_eq_true_eq]
theorem one_row {A : Tab} (h : ∀ r ∈ A, okRow [.i .i64] r) {k : Nat} (hk : k < A.length) : A[k] = [(A.getD k []).getD 0 0] := by
  have := h _ (List.getElem_mem hk)
  have e : A.getD k [] = A[k] := by rw [List.getD_eq_getElem?_getD, List.getElem?_eq_getElem hk]; rfl
  rw [e]
  match hr : A[k], this with
  | [a], _ => rfl
theorem pre_step {A B : Tab} (hA : ∀ r ∈ A, okRow [.i .i64] r) (hB : ∀ r ∈ B, okRow [.i .i64] r) (h : preB A B i = true) (h0 : 0 ≤ i) (h1 : i < A.length) (e : (A.getD i.toNat []).getD 0 0 = (B.getD i.toNat []).getD 0 0) : preB A B (i + 1) = true := by
  obtain ⟨g1, g2⟩ := pre_iff.1 h
  refine pre_iff.2 ⟨g1, ?_⟩
  rw [show (i + 1).toNat = i.toNat + 1 by omega, List.take_add_one, List.take_add_one, g2, List.getElem?_eq_getElem (by omega), List.getElem?_eq_getElem (by omega), one_row hA (by omega), one_row hB (by omega), e]
theorem pre_end {A B : Tab} (h : preB A B i = true) (h1 : ¬ i < A.length) : A = B := by
  obtain ⟨g1, g2⟩ := pre_iff.1 h
  rwa [List.take_of_length_le (by omega), List.take_of_length_le (by omega)] at g2
theorem nat3 : Int.toNat 3 = 3 := rfl
theorem rq_nil (m : Nat) (n : Int) : rqB (List.replicate m []) n = true := by
  unfold rqB
  rw [List.all_eq_true]
  intro q hq
  rw [(List.mem_replicate.1 hq).2]
  rfl
end
end Go.SF.C15
