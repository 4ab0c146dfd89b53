/- In how many steps the time goes on makes no difference, in plain Lean. -/
import Derived.Test.YtnjnmeidjcdppaaP3
namespace Go.SF.C18
open Go.SF
set_option linter.unusedVariables false
set_option linter.unusedSimpArgs false

/-! ### numbers -/
theorem times_eq {a e n : Int} (h0 : 1 ≤ e) (h : a ≤ n) (ha : 0 ≤ a) (hn : n ≤ 10000000) : timesI a e n = 1 + (n - a) / e := by
  have hd : (n - a).tdiv e = (n - a) / e := Int.tdiv_eq_ediv_of_nonneg (by omega)
  have h1 : 0 ≤ (n - a) / e := Int.ediv_nonneg (by omega) (by omega)
  have h2 : (n - a) / e ≤ n - a := Int.ediv_le_self _ (by omega)
  unfold timesI
  have w1 : W (n - a) = n - a := wrap_in (by simp only [kmin]; omega) (by simp only [kmax]; omega)
  rw [w1, hd]
  have w2 : W ((n - a) / e) = (n - a) / e := wrap_in (by simp only [kmin]; omega) (by simp only [kmax]; omega)
  rw [w2]
  have w3 : W ((n - a) / e + 1) = (n - a) / e + 1 := wrap_in (by simp only [kmin]; omega) (by simp only [kmax]; omega)
  rw [w3]; omega
theorem next_eq {a e n : Int} (h0 : 1 ≤ e) (he : e ≤ 65535) (h : a ≤ n) (ha : 0 ≤ a) (hn : n ≤ 10000000) : nextI a e n = a + (1 + (n - a) / e) * e := by
  have h2 : (n - a) / e * e ≤ n - a := Int.ediv_mul_le _ (by omega)
  have h1 : 0 ≤ (n - a) / e * e := Int.mul_nonneg (Int.ediv_nonneg (by omega) (by omega)) (by omega)
  have hm : (1 + (n - a) / e) * e = e + (n - a) / e * e := by rw [Int.add_mul, Int.one_mul]
  unfold nextI
  rw [times_eq h0 h ha hn]
  have w1 : W ((1 + (n - a) / e) * e) = (1 + (n - a) / e) * e := wrap_in (by simp only [kmin]; omega) (by simp only [kmax]; omega)
  rw [w1]
  exact wrap_in (by simp only [kmin]; omega) (by simp only [kmax]; omega)
theorem next_gt {a e n : Int} (h0 : 1 ≤ e) : n < a + (1 + (n - a) / e) * e := by
  have h := Int.lt_ediv_add_one_mul_self (n - a) (show 0 < e by omega)
  rw [Int.add_comm ((n - a) / e) 1] at h
  omega
theorem next_le {a e n : Int} (h0 : 1 ≤ e) : a + (1 + (n - a) / e) * e ≤ n + e := by
  have h2 : (n - a) / e * e ≤ n - a := Int.ediv_mul_le _ (by omega)
  have hm : (1 + (n - a) / e) * e = e + (n - a) / e * e := by rw [Int.add_mul, Int.one_mul]
  omega
theorem again {a e m n : Int} (h0 : 1 ≤ e) (h : a + (1 + (m - a) / e) * e ≤ n) : (n - (a + (1 + (m - a) / e) * e)) / e = (n - a) / e - (1 + (m - a) / e) := by
  generalize 1 + (m - a) / e = c
  have : n - (a + c * e) = (n - a) + (-c) * e := by rw [Int.neg_mul]; omega
  rw [this, Int.add_mul_ediv_right _ _ (by omega)]; omega
theorem same {a e m n : Int} (h0 : 1 ≤ e) (hm : m ≤ n) (h : ¬ a + (1 + (m - a) / e) * e ≤ n) : (n - a) / e = (m - a) / e := by
  have h1 : (m - a) / e ≤ (n - a) / e := Int.ediv_le_ediv (by omega) (by omega)
  have h2 : (n - a) / e < 1 + (m - a) / e := Int.ediv_lt_of_lt_mul (by omega) (by omega)
  omega

/-! ### rows -/
def okR (r : List Int) : Prop := 0 ≤ hdK r ∧ hdK r < 30 ∧ 1 ≤ r.getD 1 0 ∧ r.getD 1 0 ≤ 65536 ∧ 0 ≤ r.getD 2 0 ∧ r.getD 2 0 ≤ 65535
theorem ok_at {T : Tab} {i : Int} (h : okT T i = true) (hi : i ≤ 30) {r : List Int} (hr : r ∈ T) : okR r := by
  have := List.all_eq_true.1 h r hr
  simp only [Bool.and_eq_true, decide_eq_true_eq] at this
  unfold okR; omega
theorem step_two {r : List Int} {m n : Int} (h : okR r) (hm : m ≤ n) (hn : n ≤ 5000000) : (stepR m r).bind (stepR n) = stepR n r := by
  obtain ⟨h1, h2, h3, h4, h5, h6⟩ := h
  by_cases hd : r.getD 1 0 ≤ m
  · have d1 : dueB m r = true := decide_eq_true hd
    have d2 : dueB n r = true := decide_eq_true (by omega)
    unfold stepR
    rw [if_pos d1]
    by_cases he : r.getD 2 0 = 0
    · rw [if_pos he, if_pos d2, if_pos he]; rfl
    · rw [if_neg he, Option.bind_some, if_pos d2, if_neg he]
      have e1 := next_eq (a := r.getD 1 0) (e := r.getD 2 0) (n := m) (by omega) h6 hd (by omega) (by omega)
      have e2 := next_eq (a := r.getD 1 0) (e := r.getD 2 0) (n := n) (by omega) h6 (by omega) (by omega) (by omega)
      have hle := next_le (a := r.getD 1 0) (e := r.getD 2 0) (n := m) (by omega)
      have hgt := next_gt (a := r.getD 1 0) (e := r.getD 2 0) (n := m) (by omega)
      rw [e1, e2]
      generalize hA : r.getD 1 0 + (1 + (m - r.getD 1 0) / r.getD 2 0) * r.getD 2 0 = A at *
      by_cases hA2 : A ≤ n
      · have d3 : dueB n [hdK r, A, r.getD 2 0] = true := decide_eq_true hA2
        rw [if_pos d3]
        simp only [List.getD_cons_zero, List.getD_cons_succ]
        rw [if_neg he]
        have e3 := next_eq (a := A) (e := r.getD 2 0) (n := n) (by omega) h6 hA2 (by omega) (by omega)
        have ag := again (a := r.getD 1 0) (e := r.getD 2 0) (m := m) (n := n) (by omega) (by omega)
        rw [hA] at ag
        have hfin : A + (1 + (n - A) / r.getD 2 0) * r.getD 2 0 = r.getD 1 0 + (1 + (n - r.getD 1 0) / r.getD 2 0) * r.getD 2 0 := by
          rw [ag]
          have : (1 + ((n - r.getD 1 0) / r.getD 2 0 - (1 + (m - r.getD 1 0) / r.getD 2 0))) * r.getD 2 0 = (1 + (n - r.getD 1 0) / r.getD 2 0) * r.getD 2 0 - (1 + (m - r.getD 1 0) / r.getD 2 0) * r.getD 2 0 := by
            rw [← Int.sub_mul]; congr 1; omega
          rw [this]; omega
        rw [e3, hfin]; rfl
      · have d3 : ¬ dueB n [hdK r, A, r.getD 2 0] = true := by
          intro x; exact hA2 (of_decide_eq_true x)
        rw [if_neg d3]
        have sm := same (a := r.getD 1 0) (e := r.getD 2 0) (m := m) (n := n) (by omega) hm (by omega)
        rw [sm, hA]
  · have d1 : ¬ dueB m r = true := fun x => hd (of_decide_eq_true x)
    have : stepR m r = some r := by unfold stepR; rw [if_neg d1]
    rw [this]; rfl
theorem fm_congr {f g : List Int → Option (List Int)} : ∀ {T : Tab}, (∀ r ∈ T, f r = g r) → T.filterMap f = T.filterMap g
  | [], _ => rfl
  | r :: T, h => by
    rw [List.filterMap_cons, List.filterMap_cons, h r (by simp), fm_congr fun s hs => h s (List.mem_cons_of_mem _ hs)]
theorem tick_two {T : Tab} {i m n : Int} (h : okT T i = true) (hi : i ≤ 30) (hm : m ≤ n) (hn : n ≤ 5000000) : tickT (tickT T m) n = tickT T n := by
  unfold tickT
  rw [List.filterMap_filterMap]
  exact fm_congr fun r hr => step_two (ok_at h hi hr) hm hn
theorem cnt_two {r : List Int} {m n : Int} (h : okR r) (hm : m ≤ n) (hn : n ≤ 5000000) : cntR n r = cntR m r + (match stepR m r with | some s => cntR n s | none => 0) := by
  obtain ⟨h1, h2, h3, h4, h5, h6⟩ := h
  by_cases hd : r.getD 1 0 ≤ m
  · have d1 : dueB m r = true := decide_eq_true hd
    have d2 : dueB n r = true := decide_eq_true (by omega)
    have c1 : cntR m r = if r.getD 2 0 = 0 then 1 else timesI (r.getD 1 0) (r.getD 2 0) m := by unfold cntR; rw [if_pos d1]
    have c2 : cntR n r = if r.getD 2 0 = 0 then 1 else timesI (r.getD 1 0) (r.getD 2 0) n := by unfold cntR; rw [if_pos d2]
    rw [c1, c2]
    by_cases he : r.getD 2 0 = 0
    · have : stepR m r = none := by unfold stepR; rw [if_pos d1, if_pos he]
      rw [this, if_pos he, if_pos he]; rfl
    · have : stepR m r = some [hdK r, nextI (r.getD 1 0) (r.getD 2 0) m, r.getD 2 0] := by unfold stepR; rw [if_pos d1, if_neg he]
      rw [this, if_neg he, if_neg he]
      have e1 := next_eq (a := r.getD 1 0) (e := r.getD 2 0) (n := m) (by omega) h6 hd (by omega) (by omega)
      have t1 := times_eq (a := r.getD 1 0) (e := r.getD 2 0) (n := m) (by omega) hd (by omega) (by omega)
      have t2 := times_eq (a := r.getD 1 0) (e := r.getD 2 0) (n := n) (by omega) (by omega) (by omega) (by omega)
      have hgt := next_gt (a := r.getD 1 0) (e := r.getD 2 0) (n := m) (by omega)
      rw [e1, t1, t2]
      show _ = _ + cntR n [hdK r, _, r.getD 2 0]
      generalize hA : r.getD 1 0 + (1 + (m - r.getD 1 0) / r.getD 2 0) * r.getD 2 0 = A at *
      by_cases hA2 : A ≤ n
      · have d3 : dueB n [hdK r, A, r.getD 2 0] = true := decide_eq_true hA2
        have c3 : cntR n [hdK r, A, r.getD 2 0] = if r.getD 2 0 = 0 then 1 else timesI A (r.getD 2 0) n := by unfold cntR; rw [if_pos d3]; rfl
        rw [c3, if_neg he, times_eq (by omega) hA2 (by omega) (by omega)]
        have ag := again (a := r.getD 1 0) (e := r.getD 2 0) (m := m) (n := n) (by omega) (by omega)
        rw [hA] at ag
        omega
      · have d3 : ¬ dueB n [hdK r, A, r.getD 2 0] = true := by
          intro x; exact hA2 (of_decide_eq_true x)
        have c3 : cntR n [hdK r, A, r.getD 2 0] = 0 := by unfold cntR; rw [if_neg d3]
        have sm := same (a := r.getD 1 0) (e := r.getD 2 0) (m := m) (n := n) (by omega) hm (by omega)
        rw [c3, sm]; omega
  · have d1 : ¬ dueB m r = true := fun x => hd (of_decide_eq_true x)
    have s1 : stepR m r = some r := by unfold stepR; rw [if_neg d1]
    have c1 : cntR m r = 0 := by unfold cntR; rw [if_neg d1]
    rw [s1, c1]; simp
theorem step_hd {m : Int} {r s : List Int} (h : stepR m r = some s) : hdK s = hdK r := by
  unfold stepR at h
  split at h
  · split at h
    · cases h
    · simp only [Option.some.injEq] at h; subst h; rfl
  · simp only [Option.some.injEq] at h; subst h; rfl
theorem sum_two {m n k : Int} (hm : m ≤ n) (hn : n ≤ 5000000) : ∀ T : Tab, (∀ r ∈ T, okR r) → sumC n k T = sumC m k T + sumC n k (tickT T m)
  | [], _ => rfl
  | r :: T, h => by
    have ih := sum_two (k := k) hm hn T fun s hs => h s (List.mem_cons_of_mem _ hs)
    have ct := cnt_two (h r (by simp)) hm hn
    have e : tickT (r :: T) m = match stepR m r with | none => tickT T m | some s => s :: tickT T m := by unfold tickT; rw [List.filterMap_cons]; cases stepR m r <;> rfl
    rw [e]
    cases hs : stepR m r with
    | none =>
      rw [hs] at ct
      simp only [sumC, List.foldr_cons] at *
      split
      · omega
      · omega
    | some s =>
      rw [hs] at ct
      have hh := step_hd hs
      simp only [sumC, List.foldr_cons, hh] at *
      split
      · omega
      · omega
theorem cnt_bound {r : List Int} {n : Int} (h : okR r) (h0 : 0 ≤ n) (hn : n ≤ 5000000) : 0 ≤ cntR n r ∧ cntR n r ≤ n + 1 := by
  obtain ⟨h1, h2, h3, h4, h5, h6⟩ := h
  unfold cntR
  split
  · rename_i hd
    have hd : r.getD 1 0 ≤ n := of_decide_eq_true hd
    split
    · omega
    · have t := times_eq (a := r.getD 1 0) (e := r.getD 2 0) (n := n) (by omega) hd (by omega) (by omega)
      have h1 : 0 ≤ (n - r.getD 1 0) / r.getD 2 0 := Int.ediv_nonneg (by omega) (by omega)
      have h2 : (n - r.getD 1 0) / r.getD 2 0 ≤ n - r.getD 1 0 := Int.ediv_le_self _ (by omega)
      omega
  · omega
theorem sum_bound {n k : Int} (h0 : 0 ≤ n) (hn : n ≤ 5000000) : ∀ T : Tab, (∀ r ∈ T, okR r) → 0 ≤ sumC n k T ∧ sumC n k T ≤ T.length * (n + 1)
  | [], _ => by simp [sumC]
  | r :: T, h => by
    have ih := sum_bound (k := k) h0 hn T fun s hs => h s (List.mem_cons_of_mem _ hs)
    have hc := cnt_bound (h r (by simp)) h0 hn
    simp only [sumC, List.foldr_cons, List.length_cons] at *
    have : ((T.length + 1 : Nat) : Int) * (n + 1) = T.length * (n + 1) + (n + 1) := by rw [Int.natCast_add, Int.add_mul]; simp
    split <;> omega

/-! ### thirty numbers -/
def one (N : Tab) : Prop := ∀ r ∈ N, ∃ x, r = [x]
abbrev cell (N : Tab) (k : Nat) : Int := (N.getD k []).getD 0 0
theorem mod_len (N : Tab) (i : Nat) (f : List Int → List Int) : (N.modify i f).length = N.length := List.length_modify ..
theorem mem_modify {f : List Int → List Int} : ∀ {A : Tab} {n : Nat} {r : List Int}, r ∈ A.modify n f → r ∈ A ∨ ∃ s ∈ A, r = f s
  | [], n, r, h => by simp at h
  | a :: A, 0, r, h => by
    rw [List.modify_zero_cons] at h
    rcases List.mem_cons.1 h with rfl | h
    · exact .inr ⟨a, by simp, rfl⟩
    · exact .inl (List.mem_cons_of_mem _ h)
  | a :: A, n + 1, r, h => by
    rw [List.modify_succ_cons] at h
    rcases List.mem_cons.1 h with rfl | h
    · exact .inl (by simp)
    · rcases mem_modify h with h | ⟨s, hs, e⟩
      · exact .inl (List.mem_cons_of_mem _ h)
      · exact .inr ⟨s, List.mem_cons_of_mem _ hs, e⟩
theorem set_one {N : Tab} (h : one N) (i : Nat) (x : Int) : one (N.modify i fun row => row.set (0 : Int).toNat x) := fun r hr => by
  rcases mem_modify hr with hr | ⟨s, hs, rfl⟩
  · exact h r hr
  · obtain ⟨y, rfl⟩ := h s hs
    exact ⟨x, rfl⟩
theorem set_cell {N : Tab} (h : one N) {i k : Nat} (hi : i < N.length) (x : Int) : cell (N.modify i fun row => row.set (0 : Int).toNat x) k = if i = k then x else cell N k := by
  unfold cell
  simp only [List.getD, List.getElem?_modify]
  by_cases e : i = k
  · subst e
    obtain ⟨y, hy⟩ := h _ (List.getElem_mem hi)
    rw [if_pos rfl, List.getElem?_eq_getElem hi, hy]; simp
  · rw [if_neg e]
    simp [e]
theorem ext_one {A B : Tab} (ha : one A) (hb : one B) (hl : A.length = B.length) (h : ∀ k, k < A.length → cell A k = cell B k) : A = B := by
  refine List.ext_getElem hl fun k h1 h2 => ?_
  obtain ⟨x, hx⟩ := ha _ (List.getElem_mem h1)
  obtain ⟨y, hy⟩ := hb _ (List.getElem_mem h2)
  have := h k h1
  simp only [cell, List.getD, List.getElem?_eq_getElem h1, List.getElem?_eq_getElem h2, hx, hy, Option.getD_some, List.getElem?_cons_zero] at this
  rw [hx, hy, this]
def tk (k : Int) (L : Tab) : Int := L.foldr (fun r s => (if r.getD 0 0 = k then r.getD 2 0 else 0) + s) 0
theorem tk_nonneg {k : Int} : ∀ L : Tab, (∀ r ∈ L, 0 ≤ r.getD 2 0) → 0 ≤ tk k L
  | [], _ => Int.le_refl _
  | r :: L, h => by
    have ih := tk_nonneg (k := k) L fun s hs => h s (List.mem_cons_of_mem _ hs)
    have := h r (by simp)
    simp only [tk, List.foldr_cons] at *
    split <;> omega
theorem add_all : ∀ (L N : Tab), one N → (∀ r ∈ L, 0 ≤ r.getD 0 0 ∧ r.getD 0 0 < N.length ∧ 0 ≤ r.getD 2 0) → (∀ k : Nat, 0 ≤ cell N k ∧ cell N k + tk k L ≤ 1000000000000) →
    one (addAll N L) ∧ (addAll N L).length = N.length ∧ ∀ k : Nat, cell (addAll N L) k = cell N k + tk k L
  | [], N, h, _, _ => ⟨h, rfl, fun k => by simp [addAll, tk]⟩
  | r :: L, N, h, hL, hb => by
    have hr := hL r (by simp)
    have hi : (r.getD 0 0).toNat < N.length := by omega
    have hpos := tk_nonneg (k := r.getD 0 0) L fun s hs => (hL s (List.mem_cons_of_mem _ hs)).2.2
    have hw : W (cell N (r.getD 0 0).toNat + r.getD 2 0) = cell N (r.getD 0 0).toNat + r.getD 2 0 := by
      have := hb (r.getD 0 0).toNat
      rw [show (((r.getD 0 0).toNat : Nat) : Int) = r.getD 0 0 by omega] at this
      simp only [tk, List.foldr_cons, if_true] at this hpos
      exact wrap_in (by simp only [kmin]; omega) (by simp only [kmax]; omega)
    have hc : ∀ k : Nat, cell (addN N (r.getD 0 0) (r.getD 2 0)) k = cell N k + (if r.getD 0 0 = (k : Int) then r.getD 2 0 else 0) := fun k => by
      unfold addN
      rw [set_cell h hi, hw]
      by_cases e : (r.getD 0 0).toNat = k
      · rw [if_pos e, if_pos (by omega), ← e]
      · rw [if_neg e, if_neg (by omega)]; omega
    obtain ⟨g1, g2, g3⟩ := add_all L (addN N (r.getD 0 0) (r.getD 2 0)) (set_one h _ _) (fun s hs => by
        have := hL s (List.mem_cons_of_mem _ hs)
        rw [show (addN N (r.getD 0 0) (r.getD 2 0)).length = N.length from mod_len ..]; exact this) fun k => by
        have := hb k
        simp only [tk, List.foldr_cons] at this ⊢
        rw [hc k]
        split <;> split at this <;> omega
    refine ⟨g1, g2.trans (mod_len ..), fun k => ?_⟩
    show cell (addAll (addN N (r.getD 0 0) (r.getD 2 0)) L) k = _
    rw [g3 k, hc k]
    simp only [tk, List.foldr_cons]
    omega
theorem sub_all : ∀ (L N : Tab), one N → (∀ r ∈ L, 0 ≤ r.getD 0 0 ∧ r.getD 0 0 < N.length ∧ 0 ≤ r.getD 2 0) → (∀ k : Nat, cell N k ≤ 1000000000000 ∧ -1000000000000 ≤ cell N k - tk k L) →
    one (subAll N L) ∧ (subAll N L).length = N.length ∧ ∀ k : Nat, cell (subAll N L) k = cell N k - tk k L
  | [], N, h, _, _ => ⟨h, rfl, fun k => by simp [subAll, tk]⟩
  | r :: L, N, h, hL, hb => by
    have hr := hL r (by simp)
    have hi : (r.getD 0 0).toNat < N.length := by omega
    have hpos := tk_nonneg (k := r.getD 0 0) L fun s hs => (hL s (List.mem_cons_of_mem _ hs)).2.2
    have hw : W (cell N (r.getD 0 0).toNat - r.getD 2 0) = cell N (r.getD 0 0).toNat - r.getD 2 0 := by
      have := hb (r.getD 0 0).toNat
      rw [show (((r.getD 0 0).toNat : Nat) : Int) = r.getD 0 0 by omega] at this
      simp only [tk, List.foldr_cons, if_true] at this hpos
      exact wrap_in (by simp only [kmin]; omega) (by simp only [kmax]; omega)
    have hc : ∀ k : Nat, cell (subN N (r.getD 0 0) (r.getD 2 0)) k = cell N k - (if r.getD 0 0 = (k : Int) then r.getD 2 0 else 0) := fun k => by
      unfold subN
      rw [set_cell h hi, hw]
      by_cases e : (r.getD 0 0).toNat = k
      · rw [if_pos e, if_pos (by omega), ← e]
      · rw [if_neg e, if_neg (by omega)]; omega
    obtain ⟨g1, g2, g3⟩ := sub_all L (subN N (r.getD 0 0) (r.getD 2 0)) (set_one h _ _) (fun s hs => by
        have := hL s (List.mem_cons_of_mem _ hs)
        rw [show (subN N (r.getD 0 0) (r.getD 2 0)).length = N.length from mod_len ..]; exact this) fun k => by
        have := hb k
        simp only [tk, List.foldr_cons] at this ⊢
        rw [hc k]
        split <;> split at this <;> omega
    refine ⟨g1, g2.trans (mod_len ..), fun k => ?_⟩
    show cell (subAll (subN N (r.getD 0 0) (r.getD 2 0)) L) k = _
    rw [g3 k, hc k]
    simp only [tk, List.foldr_cons]
    omega
theorem tk_ins {k id a t : Int} : ∀ L : Tab, tk k (insF id a t L) = (if id = k then t else 0) + tk k L
  | [] => rfl
  | y :: L => by
    rw [ins_cons]
    split
    · have := tk_ins (k := k) (id := id) (a := a) (t := t) L
      simp only [tk, List.foldr_cons] at *
      omega
    · rfl
theorem tk_fires {k n : Int} : ∀ T : Tab, tk k ((T.filter (dueB n)).foldr (fireR n) []) = sumC n k T
  | [] => rfl
  | r :: T => by
    rw [List.filter_cons]
    split
    · rename_i hd
      rw [List.foldr_cons]
      show tk k (insF (hdK r) (r.getD 1 0) _ (List.foldr (fireR n) [] _)) = _
      rw [tk_ins, tk_fires T]
      simp only [sumC, List.foldr_cons]
      congr 1
      unfold cntR
      rw [if_pos hd]
    · rename_i hd
      rw [tk_fires T]
      simp only [sumC, List.foldr_cons]
      have : cntR n r = 0 := by unfold cntR; rw [if_neg hd]
      rw [this]; simp
theorem tk_tick {T : Tab} {k n : Int} : tk k (tickL T n) = sumC n k T := tk_fires T
theorem cnt_one (T : Tab) (n : Int) : one (cntN T n) := fun r hr => by
  obtain ⟨k, _, rfl⟩ := List.mem_map.1 hr; exact ⟨_, rfl⟩
theorem cnt_len (T : Tab) (n : Int) : (cntN T n).length = 30 := by simp [cntN]
theorem cnt_cell (T : Tab) (n : Int) (k : Nat) : cell (cntN T n) k = if k < 30 then sumC n k T else 0 := by
  unfold cell cntN
  by_cases h : k < 30
  · simp [List.getD, h]
  · simp [List.getD, h]
/-- Rows of what fires. -/
theorem fires_row {n : Int} {T : Tab} : ∀ r ∈ tickL T n, ∃ s ∈ T, dueB n s = true ∧ r.getD 0 0 = hdK s ∧ r.getD 1 0 = s.getD 1 0 ∧ r.getD 2 0 = cntR n s := by
  have key : ∀ D : Tab, (∀ s ∈ D, dueB n s = true) → ∀ r ∈ D.foldr (fireR n) [], ∃ s ∈ D, dueB n s = true ∧ r.getD 0 0 = hdK s ∧ r.getD 1 0 = s.getD 1 0 ∧ r.getD 2 0 = cntR n s := by
    intro D
    induction D with
    | nil => intro _ r h; cases h
    | cons s D ih =>
      intro hD r h
      rw [List.foldr_cons] at h
      rcases ins_mem h with rfl | h
      · refine ⟨s, by simp, hD s (by simp), rfl, rfl, ?_⟩
        unfold cntR; rw [if_pos (hD s (by simp))]; rfl
      · obtain ⟨s', h1, h2⟩ := ih (fun x hx => hD x (List.mem_cons_of_mem _ hx)) r h
        exact ⟨s', List.mem_cons_of_mem _ h1, h2⟩
  intro r hr
  obtain ⟨s, h1, h2⟩ := key _ (fun s hs => (List.mem_filter.1 hs).2) r hr
  exact ⟨s, (List.mem_filter.1 h1).1, h2⟩
end Go.SF.C18
