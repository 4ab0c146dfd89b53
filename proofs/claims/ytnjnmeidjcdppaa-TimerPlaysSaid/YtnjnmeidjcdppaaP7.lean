/- Chapter 18: the document's answer step by step; what stays so; in plain Lean. -/
import Derived.Test.YtnjnmeidjcdppaaP6
namespace Go.SF.C18
open Go Go.SF
set_option linter.unusedVariables false
set_option linter.unusedSimpArgs false
variable {T L M D G C : Tab} {id a e t now i n k q w : Int}

theorem is_iff : isB T L = true ↔ L = sortT T ∧ (∀ r ∈ T, r.length = 3) ∧ T.Pairwise fun a b => hdK a < hdK b := by
  simp only [isB, Bool.and_eq_true, decide_eq_true_eq, List.all_eq_true]
theorem dis_same {r : List Int} (hr : r.getD 0 0 = id) (h : L.take (i + 1).toNat = L.take i.toNat ++ [r]) : disL (L.take (i + 1).toNat) id = disL (L.take i.toNat) id := by
  unfold disL
  rw [hd0] at hr
  rw [h, List.filter_append, List.filter_cons_of_neg (by simp [hr])]; simp
theorem dis_more {r : List Int} (hr : ¬ r.getD 0 0 = id) (h : L.take (i + 1).toNat = L.take i.toNat ++ [r]) : disL (L.take (i + 1).toNat) id = disL (L.take i.toNat) id ++ [r] := by
  unfold disL
  rw [hd0] at hr
  rw [h, List.filter_append, List.filter_cons_of_pos (by simp [hr])]; simp
theorem disL_len (L : Tab) (id : Int) : (disL L id).length ≤ L.length := List.length_filter_le ..
theorem putL_len (L : Tab) (id a e : Int) : (putL L id a e).length ≤ L.length + 1 := by
  unfold putL; rw [insF_len]; have := disL_len L id; omega
theorem armL_no (h : id < 0 ∨ e < 0 ∨ 1073741824 < e ∨ a ≤ now ∨ 1099511627776 < a) : armI id a e now = 1 ∧ armL L id a e now = L := by
  have e1 : armI id a e now = 1 := if_pos h
  exact ⟨e1, if_neg (by rw [e1]; decide)⟩
theorem armL_yes (h : ¬ (id < 0 ∨ e < 0 ∨ 1073741824 < e ∨ a ≤ now ∨ 1099511627776 < a)) : armI id a e now = 0 ∧ armL L id a e now = putL L id a e := by
  have e1 : armI id a e now = 0 := if_neg h
  exact ⟨e1, if_pos e1⟩
/-- Credits. -/
theorem crL_yes {r : List Int} (h : hdK r = id) : crL (r :: D) id = r.getD 1 0 := by
  unfold crL
  rw [List.find?_cons_of_pos (by simpa using h)]; rfl
theorem crL_no {r : List Int} (h : ¬ hdK r = id) : crL (r :: D) id = crL D id := by
  unfold crL
  rw [List.find?_cons_of_neg (by simpa using h)]
theorem hasC_yes {r : List Int} (h : hdK r = id) : hasC (r :: D) id = true := by
  unfold hasC; rw [List.any_cons, decide_eq_true h]; rfl
theorem hasC_no {r : List Int} (h : ¬ hdK r = id) : hasC (r :: D) id = hasC D id := by
  unfold hasC; rw [List.any_cons, decide_eq_false h]; rfl
theorem cr_yes (h0 : 0 ≤ i) (h1 : i < D.length) (h : (D.getD i.toNat []).getD 0 0 = id) : hasC (D.drop i.toNat) id = true ∧ crG D id i = (D.getD i.toNat []).getD 1 0 := by
  rw [hd0] at h
  unfold crG
  rw [drop_step h0 h1]
  exact ⟨hasC_yes h, crL_yes h⟩
theorem cr_no (h0 : 0 ≤ i) (h1 : i < D.length) (h : ¬ (D.getD i.toNat []).getD 0 0 = id) : hasC (D.drop i.toNat) id = hasC (D.drop (i + 1).toNat) id ∧ crG D id i = crG D id (i + 1) := by
  rw [hd0] at h
  unfold crG
  rw [drop_step h0 h1]
  exact ⟨hasC_no h, crL_no h⟩
theorem cr_end (h1 : ¬ i < D.length) : hasC (D.drop i.toNat) id = false ∧ crG D id i = 0 := by
  unfold hasC crG crL
  rw [List.drop_of_length_le (by omega)]
  exact ⟨rfl, rfl⟩
theorem two {r : List Int} {k1 k2 : CK} (h : okRow [k1, k2] r) : ∃ a b, r = [a, b] := by
  match r, h with
  | [a, b], _ => exact ⟨a, b, rfl⟩
theorem setL_len (D : Tab) (id n : Int) : (setL D id n).length = if hasC D id then D.length else D.length + 1 := by
  induction D with
  | nil => rfl
  | cons r D ih =>
    rw [setL]
    by_cases h : hdK r = id
    · rw [if_pos h]; simp [hasC, h]
    · rw [if_neg h, List.length_cons, ih]
      have : hasC (r :: D) id = hasC D id := by simp [hasC, h]
      rw [this]; split <;> simp
theorem set_yes (hD : ∀ r ∈ D, okRow [.i .i64, .i .i64] r) (h0 : 0 ≤ i) (h1 : i < D.length) (h : (D.getD i.toNat []).getD 0 0 = id) :
    setG D id n i = D.modify i.toNat (fun row => row.set (1 : Int).toNat n) := by
  obtain ⟨x, y, e⟩ := two (hD _ (getD_mem h0 h1))
  have hs : D = D.take i.toNat ++ D.getD i.toNat [] :: D.drop (i + 1).toNat := by rw [← drop_step h0 h1, List.take_append_drop]
  unfold setG
  rw [drop_step h0 h1, setL, if_pos (by rw [← hd0]; exact h)]
  conv => rhs; rw [hs]
  rw [mod_mid _ _ _ _ _ (by rw [List.length_take]; omega)]
  congr 2
  rw [← h, e]; rfl
theorem set_no (h0 : 0 ≤ i) (h1 : i < D.length) (h : ¬ (D.getD i.toNat []).getD 0 0 = id) : setG D id n i = setG D id n (i + 1) := by
  unfold setG
  rw [drop_step h0 h1, setL, if_neg (by rw [← hd0]; exact h), take_step h0 h1]
  simp
theorem set_none (h : hasC (D.drop (0 : Int).toNat) id = false) : setG D id n 0 = D ++ [[id, n]] := by
  have key : ∀ D : Tab, hasC D id = false → setL D id n = D ++ [[id, n]] := by
    intro D
    induction D with
    | nil => exact fun _ => rfl
    | cons r D ih =>
      intro h
      simp only [hasC, List.any_cons, Bool.or_eq_false_iff, decide_eq_false_iff_not] at h
      rw [setL, if_neg h.1, ih (by simpa [hasC] using h.2)]; rfl
  exact key D h
theorem crL_set (D : Tab) (id n k : Int) : crL (setL D id n) k = if k = id then n else crL D k := by
  induction D with
  | nil =>
    by_cases h : k = id
    · subst h; rw [if_pos rfl]; exact crL_yes rfl
    · rw [if_neg h]; exact crL_no fun e => h e.symm
  | cons r D ih =>
    rw [setL]
    by_cases hr : hdK r = id
    · rw [if_pos hr]
      by_cases h : k = id
      · subst h; rw [if_pos rfl]; exact crL_yes rfl
      · rw [if_neg h, crL_no (fun e => h e.symm), crL_no (fun e => h (by rw [← e, hr]))]
    · rw [if_neg hr]
      by_cases hk : hdK r = k
      · have : ¬ k = id := fun e => hr (hk.trans e)
        rw [if_neg this, crL_yes hk, crL_yes hk]
      · rw [crL_no hk, crL_no hk, ih]
theorem crI_put (C : Tab) (id n k : Int) : crI (putK C [id, n]) k = if k = id then n else crI C k := by
  unfold crI
  have e : findK (putK C [id, n]) k = if k = id then [[id, n]] else findK C k := by
    unfold findK putK
    rw [List.filter_append, List.filter_filter, List.filter_cons, List.filter_filter]
    have e0 : hdK [id, n] = id := rfl
    rw [e0]
    by_cases h : k = id
    · subst h
      rw [if_pos rfl, if_pos (by simp), List.filter_eq_nil_iff.2, List.filter_eq_nil_iff.2]
      · rfl
      · intro r _; simp; omega
      · intro r _; simp; omega
    · rw [if_neg h, if_neg (by simp; omega)]
      rcases Int.lt_or_gt_of_ne h with hl | hl
      · have e1 : C.filter (fun r => decide (hdK r = k) && decide (id < hdK r)) = [] := List.filter_eq_nil_iff.2 fun r _ => by simp; omega
        rw [e1, List.append_nil]
        refine List.filter_congr fun r _ => ?_
        by_cases hk : hdK r = k
        · simp [hk]; omega
        · simp [hk]
      · have e1 : C.filter (fun r => decide (hdK r = k) && decide (hdK r < id)) = [] := List.filter_eq_nil_iff.2 fun r _ => by simp; omega
        rw [e1, List.nil_append]
        refine List.filter_congr fun r _ => ?_
        by_cases hk : hdK r = k
        · simp [hk]; omega
        · simp [hk]
  rw [e]
  split <;> rfl
theorem crE_iff : crB C D = true ↔ ∀ k, crL D k = crI C k := by
  simp only [crB, Bool.and_eq_true, List.all_eq_true, decide_eq_true_eq]
  constructor
  · rintro ⟨h1, h2⟩ k
    by_cases hc : ∃ r ∈ C, hdK r = k
    · obtain ⟨r, hr, rfl⟩ := hc; exact h1 r hr
    · by_cases hd : ∃ r ∈ D, hdK r = k
      · obtain ⟨r, hr, rfl⟩ := hd; exact h2 r hr
      · have e1 : findK C k = [] := List.filter_eq_nil_iff.2 fun r hr => by simpa using fun e => hc ⟨r, hr, e⟩
        have e2 : D.find? (fun r => decide (hdK r = k)) = none := List.find?_eq_none.2 fun r hr => by simpa using fun e => hd ⟨r, hr, e⟩
        unfold crL crI
        rw [e1, e2]; rfl
  · exact fun h => ⟨fun r _ => h _, fun r _ => h _⟩
theorem cr_now (h : crB C D = true) : crG D id 0 = crI C id := crE_iff.1 h id
theorem cr_set (h : crB C D = true) : crB (putK C [id, n]) (setG D id n 0) = true := by
  refine crE_iff.2 fun k => ?_
  show crL (setL D id n) k = _
  rw [crL_set, crI_put, crE_iff.1 h k]
/-- Tick, step by step. -/
theorem due_cons (h : 0 < (L.length : Int)) (hd : (L.getD (0 : Int).toNat []).getD 1 0 ≤ now) : dueL L now = L.getD (0 : Int).toNat [] :: dueL (L.drop (1 : Int).toNat) now ∧ restL L now = restL (L.drop (1 : Int).toNat) now := by
  cases L with
  | nil => simp at h
  | cons r L =>
    have hd : r.getD 1 0 ≤ now := hd
    exact ⟨List.takeWhile_cons_of_pos (by simpa using hd), List.dropWhile_cons_of_pos (by simpa using hd)⟩
theorem due_none (h : ¬ 0 < (L.length : Int) ∨ ¬ (L.getD (0 : Int).toNat []).getD 1 0 ≤ now) : dueL L now = [] ∧ restL L now = L := by
  cases L with
  | nil => exact ⟨rfl, rfl⟩
  | cons r L =>
    have hd : ¬ r.getD 1 0 ≤ now := h.resolve_left (by simp)
    exact ⟨List.takeWhile_cons_of_neg (by simpa using hd), List.dropWhile_cons_of_neg (by simpa using hd)⟩
theorem due_len (L : Tab) (now : Int) : (dueL L now).length + (restL L now).length = L.length := by
  have := congrArg List.length (List.takeWhile_append_dropWhile (p := fun r : List Int => decide (r.getD 1 0 ≤ now)) (l := L))
  rw [List.length_append] at this
  exact this
theorem out_len (now : Int) (D : Tab) : (outL now D).length = D.length := by simp [outL]
theorem aga_len (now : Int) (D : Tab) : (agaL now D).length ≤ D.length := List.length_filterMap_le ..
theorem out_cons (r : List Int) (D : Tab) : outL now (r :: D) = [r.getD 0 0, r.getD 1 0, if r.getD 2 0 = 0 then 1 else timesI (r.getD 1 0) (r.getD 2 0) now] :: outL now D := by
  rw [hd0]; rfl
theorem aga_cons (r : List Int) (D : Tab) (h : ¬ r.getD 2 0 = 0) : agaL now (r :: D) = [r.getD 0 0, nextI (r.getD 1 0) (r.getD 2 0) now, r.getD 2 0] :: agaL now D := by
  have : nxtR now r = some [r.getD 0 0, nextI (r.getD 1 0) (r.getD 2 0) now, r.getD 2 0] := by rw [nxtR, if_neg h, hd0]
  rw [agaL, List.filterMap_cons, this]; rfl
theorem aga_skip (r : List Int) (D : Tab) (h : r.getD 2 0 = 0) : agaL now (r :: D) = agaL now D := by
  have : nxtR now r = none := by rw [nxtR, if_pos h]
  rw [agaL, List.filterMap_cons, this]; rfl
theorem tim_iff : timB T n = true ↔ ∀ r ∈ T, n < r.getD 1 0 ∧ r.getD 1 0 ≤ 1099511627776 ∧ 0 ≤ r.getD 2 0 ∧ r.getD 2 0 ≤ 1073741824 := by
  simp only [timB, List.all_eq_true, Bool.and_eq_true, decide_eq_true_eq, and_assoc]
theorem tim_drop (h : timB L n = true) : timB (L.drop (1 : Int).toNat) n = true := tim_iff.2 fun r hr => tim_iff.1 h r (List.mem_of_mem_drop hr)
theorem tim_head (h : timB L n = true) (h0 : 0 < (L.length : Int)) : 0 ≤ (L.getD (0 : Int).toNat []).getD 2 0 := (tim_iff.1 h _ (getD_mem (by omega) (by omega))).2.2.1
theorem putAll_step (h0 : 0 ≤ i) (h1 : i < G.length) : putAll L (G.drop i.toNat) = putAll (putL L ((G.getD i.toNat []).getD 0 0) ((G.getD i.toNat []).getD 1 0) ((G.getD i.toNat []).getD 2 0)) (G.drop (i + 1).toNat) := by
  rw [drop_step h0 h1]; rfl
theorem putAll_end (h1 : ¬ i < G.length) : putAll L (G.drop i.toNat) = L := by
  rw [List.drop_of_length_le (by omega)]; rfl
/-! ### what stays so -/
theorem put_rise (h : T.Pairwise fun a b => hdK a < hdK b) (r : List Int) : (putK T r).Pairwise fun a b => hdK a < hdK b := by
  unfold putK
  refine List.pairwise_append.2 ⟨h.filter _, List.pairwise_cons.2 ⟨fun s hs => ?_, h.filter _⟩, fun s hs u hu => ?_⟩
  · simpa using (List.mem_filter.1 hs).2
  · have h1 : hdK s < hdK r := by simpa using (List.mem_filter.1 hs).2
    rcases List.mem_cons.1 hu with rfl | hu
    · exact h1
    · have h2 : hdK r < hdK u := by simpa using (List.mem_filter.1 hu).2
      omega
theorem put_mem {r s : List Int} (h : s ∈ putK T r) : s = r ∨ s ∈ T := by
  unfold putK at h
  rcases List.mem_append.1 h with h | h
  · exact .inr (List.mem_filter.1 h).1
  · rcases List.mem_cons.1 h with h | h
    · exact .inl h
    · exact .inr (List.mem_filter.1 h).1
theorem is_arm (h : isB T L = true) : isB (armT T id a e now) (armL L id a e now) = true := by
  obtain ⟨h1, h2, h3⟩ := is_iff.1 h
  rw [h1, arm_sort h2 h3]
  refine is_iff.2 ⟨rfl, ?_, ?_⟩
  · unfold armT; split
    · intro r hr
      rcases put_mem hr with rfl | hr
      · rfl
      · exact h2 r hr
    · exact h2
  · unfold armT; split
    · exact put_rise h3 _
    · exact h3
theorem tim_arm (h : timB T now = true) : timB (armT T id a e now) now = true := by
  unfold armT
  split
  · rename_i ha
    have hn : ¬ (id < 0 ∨ e < 0 ∨ 1073741824 < e ∨ a ≤ now ∨ 1099511627776 < a) := fun hh => by rw [armI, if_pos hh] at ha; cases ha
    refine tim_iff.2 fun r hr => ?_
    rcases put_mem hr with rfl | hr
    · show now < a ∧ a ≤ _ ∧ 0 ≤ e ∧ e ≤ _
      omega
    · exact tim_iff.1 h r hr
  · exact h
theorem is_dis (h : isB T L = true) : isB (delK T id) (disL L id) = true := by
  obtain ⟨h1, h2, h3⟩ := is_iff.1 h
  rw [h1, dis_sort h2 (keys_nodup h3)]
  exact is_iff.2 ⟨rfl, fun r hr => h2 r (List.mem_filter.1 hr).1, h3.filter _⟩
theorem tim_del (h : timB T n = true) : timB (delK T id) n = true := tim_iff.2 fun r hr => tim_iff.1 h r (List.mem_filter.1 hr).1
theorem del_len (T : Tab) (id : Int) : (delK T id).length + (findK T id).length = T.length := by
  unfold delK findK
  induction T with
  | nil => rfl
  | cons r T ih =>
    by_cases h : hdK r = id
    · rw [List.filter_cons_of_neg (by simp [h]), List.filter_cons_of_pos (by simp [h])]; simp; omega
    · rw [List.filter_cons_of_pos (by simp [h]), List.filter_cons_of_neg (by simp [h])]; simp; omega
theorem is_len (h : isB T L = true) : L.length = T.length := by
  obtain ⟨h1, h2, _⟩ := is_iff.1 h
  rw [h1, sort_len h2]
theorem is_dis_len (h : isB T L = true) : (disL L id).length = (delK T id).length := is_len (is_dis h)
theorem is_tick (h : isB T L = true) : isB (tickT T now) (tckL L now) = true := by
  obtain ⟨h1, h2, h3⟩ := is_iff.1 h
  rw [h1, tick_sort h2 (keys_nodup h3)]
  refine is_iff.2 ⟨rfl, fun r hr => ?_, ?_⟩
  · obtain ⟨s, hs, hsr⟩ := List.mem_filterMap.1 hr
    exact step_len (h2 s hs) hsr
  · unfold tickT
    rw [List.pairwise_filterMap]
    refine h3.imp fun {x y} hxy u hu v hv => ?_
    rw [step_key hu, step_key hv]; exact hxy
theorem is_out (h : isB T L = true) : tickL T now = outL now (dueL L now) := by
  obtain ⟨h1, h2, h3⟩ := is_iff.1 h
  rw [h1, tick_out h2 (keys_nodup h3)]
theorem is_head (h : isB T L = true) (ht : timB T n = true) (h0 : ¬ (T.length : Int) = 0) : leastI T = (L.getD (0 : Int).toNat []).getD 1 0 := by
  obtain ⟨h1, h2, h3⟩ := is_iff.1 h
  rw [h1]
  exact (sort_head h2 (keys_nodup h3) (fun r hr => (tim_iff.1 ht r hr).2.1) (by omega)).symm
theorem is_tim (h : isB T L = true) (ht : timB T n = true) (h0 : 0 ≤ n) : timB L 0 = true := by
  obtain ⟨h1, h2, _⟩ := is_iff.1 h
  refine tim_iff.2 fun r hr => ?_
  rw [h1] at hr
  have := tim_iff.1 ht r ((sort_mem h2).mem_iff.1 hr)
  omega
theorem next_in (h0 : 0 ≤ a) (h1 : a ≤ now) (hn : now ≤ 549755813888) (he : 0 < e) (he1 : e ≤ 1073741824) : now < nextI a e now ∧ nextI a e now ≤ 1099511627776 := by
  have w : ∀ x : Int, -9223372036854775808 ≤ x → x ≤ 9223372036854775807 → W x = x := fun x g1 g2 => wrap_in (by simp only [kmin]; omega) (by simp only [kmax]; omega)
  have hq : (now - a).tdiv e = (now - a) / e := Int.tdiv_eq_ediv_of_nonneg (by omega)
  have q0 : 0 ≤ (now - a) / e := Int.ediv_nonneg (by omega) (by omega)
  have q1 : (now - a) / e ≤ now - a := Int.ediv_le_self _ (by omega)
  have m1 : (now - a) / e * e ≤ now - a := Int.ediv_mul_le _ (by omega)
  have m2 : now - a < ((now - a) / e + 1) * e := Int.lt_ediv_add_one_mul_self _ he
  have et : timesI a e now = (now - a) / e + 1 := by
    unfold timesI
    rw [w (now - a) (by omega) (by omega), hq, w ((now - a) / e) (by omega) (by omega), w ((now - a) / e + 1) (by omega) (by omega)]
  have em : ((now - a) / e + 1) * e = (now - a) / e * e + e := by rw [Int.add_mul]; omega
  have m0 : 0 ≤ (now - a) / e * e := Int.mul_nonneg q0 (by omega)
  unfold nextI
  rw [et, w (((now - a) / e + 1) * e) (by omega) (by omega), w _ (by omega) (by omega)]
  omega
theorem tim_tick (h : timB T n = true) (h0 : 0 ≤ n) (h1 : n ≤ now) (h2 : now ≤ 549755813888) : timB (tickT T now) now = true := by
  refine tim_iff.2 fun r hr => ?_
  obtain ⟨s, hs, hsr⟩ := List.mem_filterMap.1 hr
  obtain ⟨a1, a2, a3, a4⟩ := tim_iff.1 h s hs
  unfold stepR at hsr
  split at hsr
  · rename_i hd
    have hd : s.getD 1 0 ≤ now := of_decide_eq_true hd
    split at hsr
    · cases hsr
    · rename_i he
      simp only [Option.some.injEq] at hsr
      subst hsr
      have := next_in (a := s.getD 1 0) (e := s.getD 2 0) (by omega) hd h2 (by omega) a4
      exact ⟨this.1, this.2, a3, a4⟩
  · rename_i hd
    simp only [Option.some.injEq] at hsr
    subst hsr
    have hd : ¬ s.getD 1 0 ≤ now := fun e => hd (decide_eq_true e)
    exact ⟨by omega, a2, a3, a4⟩
end Go.SF.C18
