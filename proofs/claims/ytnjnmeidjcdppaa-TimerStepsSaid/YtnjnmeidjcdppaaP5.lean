/- The law of steps, in plain Lean. -/
import Derived.Test.YtnjnmeidjcdppaaP4
namespace Go.SF.C18
open Go.SF
set_option linter.unusedVariables false
set_option linter.unusedSimpArgs false

theorem okT_of {T : Tab} {i : Int} (h : ∀ r ∈ T, 0 ≤ hdK r ∧ hdK r < i ∧ 1 ≤ r.getD 1 0 ∧ r.getD 1 0 ≤ 65536 ∧ 0 ≤ r.getD 2 0 ∧ r.getD 2 0 ≤ 65535) : okT T i = true := by
  refine List.all_eq_true.2 fun r hr => ?_
  have := h r hr
  simp only [Bool.and_eq_true, decide_eq_true_eq]
  omega
theorem okT_at {T : Tab} {i : Int} (h : okT T i = true) {r : List Int} (hr : r ∈ T) : 0 ≤ hdK r ∧ hdK r < i ∧ 1 ≤ r.getD 1 0 ∧ r.getD 1 0 ≤ 65536 ∧ 0 ≤ r.getD 2 0 ∧ r.getD 2 0 ≤ 65535 := by
  have := List.all_eq_true.1 h r hr
  simp only [Bool.and_eq_true, decide_eq_true_eq] at this
  omega
theorem okT_more {T : Tab} {i j : Int} (h : okT T i = true) (hi : i ≤ j) : okT T j = true := okT_of fun r hr => by
  have := okT_at h hr; omega
theorem okT_arm {T : Tab} {i a e : Int} (h : okT T i = true) (hi : 0 ≤ i) (h0 : 0 < a) (h1 : a ≤ 65536) (h2 : 0 ≤ e) (h3 : e ≤ 65535) : okT (armT T i a e 0) (i + 1) = true := by
  unfold armT; split
  · refine okT_of fun r hr => ?_
    rcases putK_mem hr with rfl | hr
    · simp only [hdK, List.headD_cons, List.getD_cons_zero, List.getD_cons_succ]; omega
    · have := okT_at h hr; omega
  · exact okT_more h (by omega)
theorem okR_all {T : Tab} (h : okT T 30 = true) : ∀ r ∈ T, okR r := fun r hr => ok_at h (by omega) hr
/-- Rows behind some time. -/
def okS (s : List Int) : Prop := 0 ≤ hdK s ∧ hdK s < 30 ∧ 1 ≤ s.getD 1 0 ∧ 0 ≤ s.getD 2 0 ∧ s.getD 2 0 ≤ 65535
theorem step_ok {r s : List Int} {n : Int} (h : okR r) (h0 : 0 ≤ n) (hn : n ≤ 5000000) (hs : stepR n r = some s) : okS s ∧ n < s.getD 1 0 := by
  obtain ⟨h1, h2, h3, h4, h5, h6⟩ := h
  unfold stepR at hs
  split at hs
  · rename_i hd
    have hd : r.getD 1 0 ≤ n := of_decide_eq_true hd
    split at hs
    · cases hs
    · rename_i he
      simp only [Option.some.injEq] at hs
      subst hs
      have e1 := next_eq (a := r.getD 1 0) (e := r.getD 2 0) (n := n) (by omega) h6 hd (by omega) (by omega)
      have hgt := next_gt (a := r.getD 1 0) (e := r.getD 2 0) (n := n) (by omega)
      unfold okS
      simp only [hdK, List.headD_cons, List.getD_cons_zero, List.getD_cons_succ] at *
      rw [e1]
      omega
  · rename_i hd
    have hd : ¬ r.getD 1 0 ≤ n := fun x => hd (decide_eq_true x)
    simp only [Option.some.injEq] at hs
    subst hs
    unfold okS
    omega
theorem tick_ok {T : Tab} {n : Int} (h : okT T 30 = true) (h0 : 0 ≤ n) (hn : n ≤ 5000000) : ∀ s ∈ tickT T n, okS s ∧ n < s.getD 1 0 := fun s hs => by
  obtain ⟨r, hr, e⟩ := List.mem_filterMap.1 hs
  exact step_ok (okR_all h r hr) h0 hn e
theorem okS_of {T : Tab} (h : okT T 30 = true) : ∀ s ∈ T, okS s := fun s hs => by
  have := okT_at h hs; unfold okS; omega
theorem fires_ok {S : Tab} {n : Int} (h : ∀ s ∈ S, okS s) (hn : n ≤ 5000000) : okL (tickL S n) n = true := by
  refine List.all_eq_true.2 fun r hr => ?_
  obtain ⟨s, hs, hd, e0, e1, e2⟩ := fires_row r hr
  obtain ⟨h1, h2, h3, h4, h5⟩ := h s hs
  have hdd : s.getD 1 0 ≤ n := of_decide_eq_true hd
  have hc : 1 ≤ cntR n s := by
    unfold cntR
    rw [if_pos hd]
    split
    · omega
    · have t := times_eq (a := s.getD 1 0) (e := s.getD 2 0) (n := n) (by omega) hdd (by omega) (by omega)
      have : 0 ≤ (n - s.getD 1 0) / s.getD 2 0 := Int.ediv_nonneg (by omega) (by omega)
      omega
  simp only [Bool.and_eq_true, decide_eq_true_eq]
  omega
theorem okL_at {L : Tab} {n k : Int} (h : okL L n = true) (h0 : 0 ≤ k) (h1 : k < L.length) : 0 ≤ (L.getD k.toNat []).getD 0 0 ∧ (L.getD k.toNat []).getD 0 0 ≤ 29 ∧ (L.getD k.toNat []).getD 1 0 ≤ n ∧ 1 ≤ (L.getD k.toNat []).getD 2 0 := by
  have := List.all_eq_true.1 h _ (getD_mem h0 h1)
  simp only [Bool.and_eq_true, decide_eq_true_eq] at this
  omega
theorem okL_mem {L : Tab} {n : Int} (h : okL L n = true) : ∀ r ∈ L, 0 ≤ r.getD 0 0 ∧ r.getD 0 0 < 30 ∧ 0 ≤ r.getD 2 0 := fun r hr => by
  have := List.all_eq_true.1 h r hr
  simp only [Bool.and_eq_true, decide_eq_true_eq] at this
  omega
theorem add_step {N L : Tab} {k : Int} (h : 0 ≤ k) (hi : k < L.length) : addAll N (L.drop k.toNat) = addAll (addN N ((L.getD k.toNat []).getD 0 0) ((L.getD k.toNat []).getD 2 0)) (L.drop (k + 1).toNat) := by
  rw [drop_step h hi]; rfl
theorem add_end {N L : Tab} {k : Int} (hi : ¬ k < L.length) : addAll N (L.drop k.toNat) = N := by
  rw [List.drop_of_length_le (by omega)]; rfl
theorem sub_step {N L : Tab} {k : Int} (h : 0 ≤ k) (hi : k < L.length) : subAll N (L.drop k.toNat) = subAll (subN N ((L.getD k.toNat []).getD 0 0) ((L.getD k.toNat []).getD 2 0)) (L.drop (k + 1).toNat) := by
  rw [drop_step h hi]; rfl
theorem sub_end {N L : Tab} {k : Int} (hi : ¬ k < L.length) : subAll N (L.drop k.toNat) = N := by
  rw [List.drop_of_length_le (by omega)]; rfl
theorem sum_small {T : Tab} {n k : Int} (h : okT T 30 = true) (hl : (T.length : Int) ≤ 30) (h0 : 0 ≤ n) (hn : n ≤ 5000000) : 0 ≤ sumC n k T ∧ sumC n k T ≤ 200000000 := by
  have hb := sum_bound (k := k) h0 hn T (okR_all h)
  have : (T.length : Int) * (n + 1) ≤ 30 * (n + 1) := Int.mul_le_mul_of_nonneg_right hl (by omega)
  omega
/-- What was counted in steps is what is counted at once. -/
theorem add_two {T : Tab} {m n : Int} (h : okT T 30 = true) (hl : (T.length : Int) ≤ 30) (h0 : 0 ≤ m) (hm : m ≤ n) (hn : n ≤ 5000000) :
    addAll (cntN T m) (List.drop (0 : Int).toNat (tickL (tickT T m) n)) = cntN T n := by
  rw [show (0 : Int).toNat = 0 from rfl, List.drop_zero]
  have hs := fires_ok (fun s hs => (tick_ok h h0 (by omega) s hs).1) hn
  obtain ⟨g1, g2, g3⟩ := add_all (tickL (tickT T m) n) (cntN T m) (cnt_one T m) (fun r hr => by
    have := okL_mem hs r hr
    rw [cnt_len]; omega) fun k => by
    rw [cnt_cell, tk_tick]
    have h1 := sum_small (k := (k : Int)) h hl h0 (by omega)
    have h2 := sum_small (k := (k : Int)) h hl (by omega : 0 ≤ n) hn
    have h3 := sum_two (k := (k : Int)) hm hn T (okR_all h)
    split <;> omega
  refine ext_one g1 (cnt_one T n) (by rw [g2, cnt_len, cnt_len]) fun k hk => ?_
  rw [g2, cnt_len] at hk
  rw [g3, cnt_cell, cnt_cell, if_pos hk, if_pos hk, tk_tick]
  exact (sum_two (k := (k : Int)) hm hn T (okR_all h)).symm
theorem zeros_one : one (List.replicate 30 [0]) := fun r hr => ⟨0, List.eq_of_mem_replicate hr⟩
theorem zeros_cell (k : Nat) : cell (List.replicate 30 [0]) k = 0 := by
  unfold cell List.getD
  rw [List.getElem?_replicate]
  split <;> rfl
theorem sub_none {T : Tab} {n : Int} (h : okT T 30 = true) (hl : (T.length : Int) ≤ 30) (h0 : 0 ≤ n) (hn : n ≤ 5000000) :
    subAll (cntN T n) (List.drop (0 : Int).toNat (tickL T n)) = List.replicate 30 [0] := by
  rw [show (0 : Int).toNat = 0 from rfl, List.drop_zero]
  have hs := fires_ok (okS_of h) hn
  obtain ⟨g1, g2, g3⟩ := sub_all (tickL T n) (cntN T n) (cnt_one T n) (fun r hr => by
    have := okL_mem hs r hr
    rw [cnt_len]; omega) fun k => by
    rw [cnt_cell, tk_tick]
    have h2 := sum_small (k := (k : Int)) h hl h0 hn
    split <;> omega
  refine ext_one g1 zeros_one (by rw [g2, cnt_len]; rfl) fun k hk => ?_
  rw [g2, cnt_len] at hk
  rw [g3, cnt_cell, if_pos hk, tk_tick, zeros_cell]; omega
theorem start_T {T : Tab} (h : okT T 30 = true) : tickT T 0 = T := (tick_none fun r hr => by have := okT_at h hr; omega).2
theorem start_N {T : Tab} (h : okT T 30 = true) : cntN T 0 = List.replicate 30 [0] := by
  refine ext_one (cnt_one T 0) zeros_one (by rw [cnt_len]; rfl) fun k hk => ?_
  rw [cnt_cell, zeros_cell]
  split
  · have key : ∀ T : Tab, (∀ r ∈ T, okR r) → sumC 0 (k : Int) T = 0 := fun T => by
      induction T with
      | nil => intro _; rfl
      | cons r T ih =>
        intro hT
        have ih := ih fun s hs => hT s (List.mem_cons_of_mem _ hs)
        obtain ⟨_, _, h3, _⟩ := hT r (by simp)
        have hc : cntR 0 r = 0 := by
          unfold cntR
          rw [if_neg]
          intro x
          have : r.getD 1 0 ≤ 0 := of_decide_eq_true x
          omega
        simp only [sumC, List.foldr_cons, hc, ite_self] at *
        omega
    exact key T (okR_all h)
  · rfl
theorem least_gt {T : Tab} {n : Int} (h : okT T 30 = true) (h0 : 0 ≤ n) (hn : n ≤ 5000000) (hT : ¬ ((tickT T n).length : Int) = 0) : n < leastI (tickT T n) := by
  obtain ⟨h1, h2, h3⟩ := foldr_min (fun r => r.getD 1 0) 1099511627776 (tickT T n)
  rcases h3 with h3 | ⟨r, hr, h3⟩
  · unfold leastI; rw [h3]; omega
  · have := (tick_ok h h0 hn r hr).2
    unfold leastI; rw [h3]; exact this
theorem zeros_at {i : Int} (h0 : 0 ≤ i) (h1 : i < 30) : ((List.replicate 30 ([0] : List Int)).getD i.toNat []).getD 0 0 = 0 := zeros_cell i.toNat
end Go.SF.C18
