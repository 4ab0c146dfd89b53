/- The next time, in plain Lean. -/
import Derived.Test.YtnjnmeidjcdppaaP2
namespace Go.SF.C18
open Go.SF
set_option linter.unusedVariables false
set_option linter.unusedSimpArgs false

theorem good_at {T : Tab} {now i : Int} (h : goodB T now i = true) {r : List Int} (hr : r ∈ T) : now < r.getD 1 0 ∧ r.getD 1 0 ≤ 65536 * (i + 2) ∧ 0 ≤ r.getD 2 0 ∧ r.getD 2 0 ≤ 65535 := by
  have := List.all_eq_true.1 h r hr
  simp only [Bool.and_eq_true, decide_eq_true_eq] at this
  omega
theorem good_of {T : Tab} {now i : Int} (h : ∀ r ∈ T, now < r.getD 1 0 ∧ r.getD 1 0 ≤ 65536 * (i + 2) ∧ 0 ≤ r.getD 2 0 ∧ r.getD 2 0 ≤ 65535) : goodB T now i = true := by
  refine List.all_eq_true.2 fun r hr => ?_
  have := h r hr
  simp only [Bool.and_eq_true, decide_eq_true_eq]
  omega
theorem putK_mem {A : Tab} {row r : List Int} (h : r ∈ putK A row) : r = row ∨ r ∈ A := by
  unfold putK at h
  rcases List.mem_append.1 h with h | h
  · exact .inr (List.mem_filter.1 h).1
  · rcases List.mem_cons.1 h with h | h
    · exact .inl h
    · exact .inr (List.mem_filter.1 h).1
theorem good_arm {T : Tab} {id a e : Int} (h : goodB T 0 0 = true) (h0 : 0 < a) (h1 : a ≤ 65536) (h2 : 0 ≤ e) (h3 : e ≤ 65535) : goodB (armT T id a e 0) 0 0 = true := by
  unfold armT; split
  · refine good_of fun r hr => ?_
    rcases putK_mem hr with rfl | hr
    · simp only [List.getD_cons_zero, List.getD_cons_succ]; omega
    · exact good_at h hr
  · exact h
theorem foldr_min (f : List Int → Int) (m : Int) : ∀ T : Tab, (∀ r ∈ T, T.foldr (fun r m => min (f r) m) m ≤ f r) ∧ T.foldr (fun r m => min (f r) m) m ≤ m ∧ (T.foldr (fun r m => min (f r) m) m = m ∨ ∃ r ∈ T, T.foldr (fun r m => min (f r) m) m = f r)
  | [] => ⟨fun r h => (by cases h), Int.le_refl _, .inl rfl⟩
  | r :: T => by
    obtain ⟨h1, h2, h3⟩ := foldr_min f m T
    rw [List.foldr_cons]
    generalize T.foldr (fun r m => min (f r) m) m = k at *
    refine ⟨fun s hs => ?_, by omega, ?_⟩
    · rcases List.mem_cons.1 hs with rfl | hs
      · omega
      · have := h1 s hs; omega
    · rcases Int.le_total (f r) k with hk | hk
      · exact .inr ⟨r, by simp, by omega⟩
      · rcases h3 with h3 | ⟨s, hs, h3⟩
        · exact .inl (by omega)
        · exact .inr ⟨s, List.mem_cons_of_mem _ hs, by omega⟩
theorem least_of {T : Tab} {now i : Int} (h : goodB T now i = true) (hi : i ≤ 30) (hT : ¬ (T.length : Int) = 0) :
    now < leastI T ∧ leastI T ≤ 65536 * (i + 2) ∧ (∀ r ∈ T, leastI T ≤ r.getD 1 0) ∧ ∃ r ∈ T, leastI T = r.getD 1 0 := by
  obtain ⟨h1, h2, h3⟩ := foldr_min (fun r => r.getD 1 0) 1099511627776 T
  have hex : ∃ r ∈ T, leastI T = r.getD 1 0 := by
    rcases h3 with h3 | h3
    · obtain ⟨r, hr⟩ : ∃ r, r ∈ T := by
        cases T with
        | nil => exact absurd rfl hT
        | cons r T => exact ⟨r, by simp⟩
      have := h1 r hr
      have g := good_at h hr
      exfalso
      rw [h3] at this
      omega
    · exact h3
  obtain ⟨r, hr, e⟩ := hex
  have g := good_at h hr
  exact ⟨by omega, by omega, h1, r, hr, e⟩
theorem tick_none {T : Tab} {n : Int} (h : ∀ r ∈ T, n < r.getD 1 0) : tickL T n = [] ∧ tickT T n = T := by
  have hd : ∀ r ∈ T, dueB n r = false := fun r hr => decide_eq_false (by have := h r hr; omega)
  constructor
  · unfold tickL; rw [filter_nil hd]; rfl
  · unfold tickT
    induction T with
    | nil => rfl
    | cons r T ih =>
      have e : stepR n r = some r := by unfold stepR; rw [if_neg (by rw [hd r (by simp)]; simp)]
      rw [List.filterMap_cons, e]
      show r :: _ = _
      rw [ih (fun s hs => h s (List.mem_cons_of_mem _ hs)) fun s hs => hd s (List.mem_cons_of_mem _ hs)]
theorem ins_mem {id a t : Int} {L : Tab} {r : List Int} (h : r ∈ insF id a t L) : r = [id, a, t] ∨ r ∈ L := by
  unfold insF at h
  rcases List.mem_append.1 h with h | h
  · exact .inr ((List.takeWhile_subset _) h)
  · rcases List.mem_cons.1 h with h | h
    · exact .inl h
    · exact .inr ((List.dropWhile_subset _) h)
theorem fires_at {now n : Int} : ∀ D : Tab, (∀ r ∈ D, r.getD 1 0 = n) → ∀ r ∈ D.foldr (fireR now) [], r.getD 1 0 = n
  | [], _, r, h => by cases h
  | s :: D, hD, r, h => by
    rw [List.foldr_cons] at h
    rcases ins_mem h with rfl | h
    · exact hD s (by simp)
    · exact fires_at D (fun x hx => hD x (List.mem_cons_of_mem _ hx)) r h
/-- What fires at the next time does so at it. -/
theorem tick_at {T : Tab} {n : Int} (h : ∀ r ∈ T, n ≤ r.getD 1 0) (hex : ∃ r ∈ T, n = r.getD 1 0) : ¬ (tickL T n).length = 0 ∧ ((tickL T n).getD (0 : Int).toNat []).getD 1 0 = n := by
  have hall : ∀ r ∈ tickL T n, r.getD 1 0 = n := fires_at _ fun r hr => by
    have h1 := List.mem_filter.1 hr
    have h2 := h r h1.1
    have h3 : r.getD 1 0 ≤ n := of_decide_eq_true h1.2
    omega
  have hlen : ¬ (tickL T n).length = 0 := by
    obtain ⟨r, hr, e⟩ := hex
    unfold tickL
    rw [fires_len]
    have : r ∈ T.filter (dueB n) := List.mem_filter.2 ⟨hr, decide_eq_true (by omega)⟩
    have := List.length_pos_of_mem this
    simp only [List.length_nil]
    omega
  refine ⟨hlen, ?_⟩
  match hL : tickL T n with
  | [] => rw [hL] at hlen; exact absurd rfl hlen
  | r :: L => exact hall r (by rw [hL]; simp)
theorem times_at {a e : Int} (h0 : 0 < e) (h1 : e ≤ 65535) (ha : 0 ≤ a) (ha' : a ≤ 10000000) : timesI a e a = 1 ∧ nextI a e a = a + e := by
  have w0 : W (a - a) = 0 := by rw [Int.sub_self]; decide
  have t1 : timesI a e a = 1 := by
    unfold timesI
    rw [w0, Int.zero_tdiv]; decide
  refine ⟨t1, ?_⟩
  unfold nextI
  rw [t1, Int.one_mul]
  have w1 : W e = e := wrap_in (by simp only [kmin]; omega) (by simp only [kmax]; omega)
  rw [w1]
  exact wrap_in (by simp only [kmin]; omega) (by simp only [kmax]; omega)
theorem good_tick {T : Tab} {n now i : Int} (hg : goodB T now i = true) (hi0 : 0 ≤ i) (hi : i ≤ 30) (h0 : 0 ≤ now) (h : ∀ r ∈ T, n ≤ r.getD 1 0) : goodB (tickT T n) n (i + 1) = true := by
  refine good_of fun r hr => ?_
  obtain ⟨s, hs, e⟩ := List.mem_filterMap.1 hr
  have g := good_at hg hs
  have hn := h s hs
  unfold stepR at e
  split at e
  · rename_i hd
    have hd : s.getD 1 0 ≤ n := of_decide_eq_true hd
    split at e
    · cases e
    · rename_i he
      simp only [Option.some.injEq] at e
      subst e
      have ha : s.getD 1 0 = n := by omega
      have ht := times_at (a := s.getD 1 0) (e := s.getD 2 0) (by omega) (by omega) (by omega) (by omega)
      simp only [List.getD_cons_zero, List.getD_cons_succ]
      rw [← ha, ht.2]
      omega
  · rename_i hd
    have hd : ¬ s.getD 1 0 ≤ n := fun x => hd (decide_eq_true x)
    simp only [Option.some.injEq] at e
    subst e
    omega
end Go.SF.C18
