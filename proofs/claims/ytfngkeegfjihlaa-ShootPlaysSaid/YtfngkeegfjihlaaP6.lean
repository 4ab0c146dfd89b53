/- Chapter 15, plain: each ask is taken once. -/
import Derived.Test.YtfngkeegfjihlaaP5
namespace Go.SF.C15
open Go.SF
set_option linter.unusedVariables false

def cel (A : Tab) (i : Nat) : Int := (A.getD i []).getD 0 0
theorem cel_set {A : Tab} {x : Int} {i j : Nat} (hi : i < A.length) (hne : A.getD i [] ≠ []) : cel (A.modify i fun row => row.set 0 x) j = if i = j then x else cel A j := by
  unfold cel
  simp only [List.getD_eq_getElem?_getD, List.getElem?_modify] at *
  by_cases e : i = j
  · subst e
    rw [List.getElem?_eq_getElem hi] at *
    simp only [Option.getD_some] at hne
    cases hr : A[i] with
    | nil => exact absurd hr hne
    | cons y r => simp
  · simp [e]
theorem cel_app {A : Tab} {x : Int} {i : Nat} : cel (A ++ [[x]]) i = if i < A.length then cel A i else if i = A.length then x else 0 := by
  unfold cel
  simp only [List.getD_eq_getElem?_getD]
  by_cases h : i < A.length
  · rw [List.getElem?_append_left h, if_pos h]
  · rw [if_neg h, List.getElem?_append_right (by omega)]
    by_cases e : i = A.length
    · subst e; simp
    · rw [if_neg e, List.getElem?_eq_none (l := [[x]]) (by show 1 ≤ i - A.length; omega)]; rfl
structure OnceP (Q O F K L : Tab) (n : Int) : Prop where
  lf : O.length = F.length
  lq : (Q.length : Int) = n
  lk : K.length = 200
  ll : (L.length : Int) = n
  k : ∀ i, i < 200 → cel K i = if i = 0 ∨ F.length < i then 0 else n - 1 - cel O (i - 1)
  r : ∀ c, c < Q.length → cel L c ≤ F.length ∧ 0 ≤ cel L c ∧ ∀ i ∈ idsT (Q.getD c []), cel L c < i ∧ ¬ cel F (i - 1).toNat = c
theorem once_iff {Q O F K L : Tab} {n : Int} : onceB Q O F K L n = true ↔ OnceP Q O F K L n := by
  simp only [onceB, Bool.and_eq_true, decide_eq_true_eq, List.all_eq_true, List.mem_range, Bool.not_eq_true', decide_eq_false_iff_not]
  exact ⟨fun ⟨a, b, c, d, e, f⟩ => ⟨a, b, c, d, e, f⟩, fun h => ⟨h.lf, h.lq, h.lk, h.ll, h.k, h.r⟩⟩
theorem cel_rep (n i : Nat) : cel (List.replicate n [0]) i = 0 := by
  unfold cel
  simp only [List.getD_eq_getElem?_getD, List.getElem?_replicate]
  split <;> rfl
theorem nilQ_get (n : Int) (i : Nat) : (List.replicate n.toNat ([] : List Int)).getD i [] = [] := by
  simp only [List.getD_eq_getElem?_getD, List.getElem?_replicate]
  split <;> rfl
theorem once_new {n : Int} (h : 1 ≤ n) : onceB (List.replicate n.toNat []) [] [] (List.replicate 200 [0]) (List.replicate n.toNat [0]) n = true := by
  refine once_iff.2 ⟨rfl, by rw [List.length_replicate]; omega, List.length_replicate, by rw [List.length_replicate]; omega, fun i hi => ?_, fun c hc => ?_⟩
  · rw [cel_rep, if_pos (by simp; omega)]
  · rw [cel_rep, nilQ_get]
    simp [idsT]
theorem ids_rng {Q O : Tab} (h : stQ Q O = true) {c : Nat} (hc : c < Q.length) : (Q.getD c []).length % 3 = 0 ∧ (idsT (Q.getD c [])).Pairwise (· < ·) ∧ ∀ i ∈ idsT (Q.getD c []), 1 ≤ i ∧ i ≤ O.length := by
  simp only [stQ, Bool.and_eq_true, List.all_eq_true] at h
  have := rowQ_iff (x := 0).1 (h.1 _ ((q_mem (B := Q) rfl).2 ⟨c, hc, rfl⟩))
  have h1 := this.div
  simp only [List.length_cons, Nat.add_sub_cancel] at h1
  exact ⟨h1, this.inc, this.rng⟩
theorem once_post {Q O F K L : Tab} {n c t p : Int} (hs : stQ Q O = true) (h : OnceP Q O F K L n) (h0 : 0 ≤ c) (h1 : c < n) :
    onceB (postQ Q c ((O.length : Int) + 1) t p) (O ++ [[(Q.length : Int) - 1]]) (F ++ [[c]]) K L n = true := by
  have lf := h.lf; have lq := h.lq
  refine once_iff.2 ⟨by simp [lf], by rw [postQ_len, lq], h.lk, h.ll, fun i hi => ?_, fun i hi => ?_⟩
  · rw [h.k i hi, cel_app]
    simp only [List.length_append, List.length_cons, List.length_nil]
    by_cases e : i = 0
    · rw [if_pos (.inl e), if_pos (.inl e)]
    · by_cases e1 : i ≤ F.length
      · rw [if_neg (by omega), if_neg (by omega), if_pos (by omega)]
      · rw [if_pos (by omega)]
        by_cases e2 : i = F.length + 1
        · rw [if_neg (by omega), if_neg (by omega), if_pos (by omega)]; omega
        · rw [if_pos (by omega)]
  · rw [postQ_len] at hi
    obtain ⟨r1, r2, r3⟩ := h.r i hi
    obtain ⟨g1, g2, g3⟩ := ids_rng hs hi
    rw [post_row hi]
    have hF : ((F ++ [[c]]).length : Int) = F.length + 1 := by simp
    refine ⟨by omega, r2, ?_⟩
    have old : ∀ j ∈ idsT (Q.getD i []), cel L i < j ∧ ¬ cel (F ++ [[c]]) (j - 1).toNat = i := fun j hj => by
      have := g3 j hj
      rw [cel_app, if_pos (by omega)]
      exact r3 j hj
    split
    · exact old
    · rename_i hne
      rw [ids_app _ _ _ _ g1]
      intro j hj
      rcases List.mem_append.1 hj with hj | hj
      · exact old j hj
      · rw [List.mem_singleton.1 hj, cel_app, if_neg (by omega), if_pos (by omega)]
        exact ⟨by omega, by omega⟩
theorem take_ids {Q O : Tab} {c : Int} (hs : stQ Q O = true) (h0 : 0 ≤ c) (h1 : c < Q.length) (hq : 0 < lenQ Q c) : ∃ l, idsT (Q.getD c.toNat []) = msgQ Q c 0 :: l ∧ idsT ((Q.getD c.toNat []).drop 3) = l := by
  obtain ⟨g1, _, _⟩ := ids_rng hs (c := c.toNat) (by omega)
  have hne : Q.getD c.toNat [] ≠ [] := fun e => by
    have : lenQ Q c = 0 := by unfold lenQ rowL; rw [e]; rfl
    omega
  obtain ⟨l, hl⟩ := ids_hd _ g1 hne
  exact ⟨l, hl, by rw [ids_drop _ g1, hl]; rfl⟩
theorem once_take {Q O F K L : Tab} {n c : Int} (hs : stQ Q O = true) (h : OnceP Q O F K L n) (hO : ∀ r ∈ O, r ≠ []) (hK : ∀ r ∈ K, r ≠ []) (hL : ∀ r ∈ L, r ≠ []) (h0 : 0 ≤ c) (h1 : c < n) (hq : 0 < lenQ Q c) (h120 : F.length ≤ 120) :
    1 ≤ msgQ Q c 0 ∧ msgQ Q c 0 ≤ F.length ∧ cel L c.toNat < msgQ Q c 0 ∧ ¬ cel F (msgQ Q c 0 - 1).toNat = c ∧ 0 ≤ cel K (msgQ Q c 0).toNat + n ∧ cel K (msgQ Q c 0).toNat ≤ n - 1 ∧
    onceB (takeQ Q c) (decT O (msgQ Q c 0)) F (K.modify (msgQ Q c 0).toNat fun row => row.set 0 (cel K (msgQ Q c 0).toNat + 1)) (L.modify c.toNat fun row => row.set 0 (msgQ Q c 0)) n = true := by
  have lf := h.lf; have lq := h.lq; have lk := h.lk; have ll := h.ll
  obtain ⟨l, e1, e2⟩ := take_ids hs h0 (by omega) hq
  obtain ⟨g1, g2, g3⟩ := ids_rng hs (c := c.toNat) (by omega)
  obtain ⟨r1, r2, r3⟩ := h.r c.toNat (by omega)
  have hid := g3 (msgQ Q c 0) (by rw [e1]; exact List.mem_cons_self ..)
  have hL' := r3 (msgQ Q c 0) (by rw [e1]; exact List.mem_cons_self ..)
  have hk := h.k (msgQ Q c 0).toNat (by omega)
  rw [if_neg (by omega)] at hk
  have hcnt : 0 ≤ cel O ((msgQ Q c 0).toNat - 1) ∧ cel O ((msgQ Q c 0).toNat - 1) ≤ Q.length := by
    simp only [stQ, Bool.and_eq_true, List.all_eq_true, decide_eq_true_eq, List.mem_range] at hs
    have := hs.2 ((msgQ Q c 0).toNat - 1) (by omega)
    unfold cel
    rw [this]
    unfold cntQ
    have := List.countP_le_length (p := fun q => (idsT q).contains ((((msgQ Q c 0).toNat - 1 : Nat) : Int) + 1)) (l := Q)
    omega
  have ne : ∀ {A : Tab} {i : Nat}, (∀ r ∈ A, r ≠ []) → i < A.length → A.getD i [] ≠ [] := fun {A i} hA hi => by
    rw [List.getD_eq_getElem?_getD, List.getElem?_eq_getElem hi]
    exact hA _ (List.getElem_mem _)
  have inc := g2
  rw [e1] at inc
  have inc := List.pairwise_cons.1 inc
  refine ⟨hid.1, by omega, hL'.1, fun e => hL'.2 (by omega), by omega, by omega, once_iff.2 ⟨by rw [dec_len, lf], by rw [takeQ_len, lq], by simp [lk], by simp [ll], fun i hi => ?_, fun i hi => ?_⟩⟩
  · rw [cel_set (by omega) (ne hK (by omega)), h.k i hi]
    by_cases e : (msgQ Q c 0).toNat = i
    · subst e
      rw [if_pos rfl, if_neg (by omega), hk]
      have := dec_get (O := O) (id := msgQ Q c 0) (i := (msgQ Q c 0).toNat - 1) hid.1 (by omega) (ne hO (by omega))
      rw [if_pos (by omega)] at this
      unfold cel at *
      rw [this]
      omega
    · rw [if_neg e]
      by_cases e0 : i = 0 ∨ F.length < i
      · rw [if_pos e0, if_pos e0]
      · rw [if_neg e0, if_neg e0]
        have := dec_get (O := O) (id := msgQ Q c 0) (i := i - 1) hid.1 (by omega) (ne hO (by omega))
        rw [if_neg (by omega)] at this
        unfold cel
        rw [this]
        omega
  · rw [takeQ_len] at hi
    rw [cel_set (by omega) (ne hL (by omega)), take_row h0 hi]
    by_cases e : c.toNat = i
    · subst e
      rw [if_pos rfl, if_pos (by omega), e2]
      refine ⟨by omega, by omega, fun j hj => ⟨inc.1 j hj, ?_⟩⟩
      exact (r3 j (by rw [e1]; exact List.mem_cons_of_mem _ hj)).2
    · rw [if_neg e, if_neg (by omega)]
      exact h.r i hi
theorem once_done {Q O F K L : Tab} {n id : Int} (hs : stQ Q O = true) (h : OnceP Q O F K L n) (h1 : 1 ≤ id) (h2 : id ≤ F.length) (h120 : F.length ≤ 120) : doneB O id = decide (cel K id.toNat = n - 1) ∧ cel K id.toNat ≤ n - 1 := by
  have hk := h.k id.toNat (by omega)
  rw [if_neg (by omega)] at hk
  have lf := h.lf
  simp only [stQ, Bool.and_eq_true, List.all_eq_true, decide_eq_true_eq, List.mem_range] at hs
  have hc := hs.2 (id.toNat - 1) (by omega)
  have h0 : 0 ≤ cel O (id.toNat - 1) := by
    unfold cel
    rw [hc]
    exact Int.natCast_nonneg _
  refine ⟨?_, by omega⟩
  unfold doneB
  rw [decide_eq_true h1, decide_eq_true (by omega : id ≤ (O.length : Int)), Bool.true_and, Bool.true_and, show (id - 1).toNat = id.toNat - 1 by omega]
  rw [Bool.eq_iff_iff]
  simp only [decide_eq_true_eq]
  have e : (O.getD (id.toNat - 1) []).getD 0 0 = cel O (id.toNat - 1) := rfl
  rw [e]
  omega
end Go.SF.C15
