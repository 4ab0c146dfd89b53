/- What Pin, Unpin, Retire and the laws of chapter 10 need, in plain Lean. -/
import Derived.Test.YtfcakaakdeakpaaI
namespace Go.SF.C10
open Go.SF
set_option linter.unusedVariables false
set_option linter.unusedSimpArgs false

theorem pin_range {P : Tab} {c : Int} (now : Int) (h : c < 0 ∨ (P.length : Int) ≤ c) : pinI P c = 2 ∧ pinL P c now = P := by
  have e : pinI P c = 2 := if_pos h
  exact ⟨e, if_neg (by rw [e]; decide)⟩
theorem pin_state {P : Tab} {c : Int} (now : Int) (h0 : 0 ≤ c) (h1 : c < P.length) (h : ¬ (P.getD c.toNat []).getD 0 0 = -1) : pinI P c = 6 ∧ pinL P c now = P := by
  have e : pinI P c = 6 := by unfold pinI; rw [if_neg (by omega), if_neg h]
  exact ⟨e, if_neg (by rw [e]; decide)⟩
theorem pin_ok {P : Tab} {c : Int} (now : Int) (h0 : 0 ≤ c) (h1 : c < P.length) (h : (P.getD c.toNat []).getD 0 0 = -1) : pinI P c = 0 ∧ pinL P c now = P.modify c.toNat fun r => r.set 0 now := by
  have e : pinI P c = 0 := by unfold pinI; rw [if_neg (by omega), if_pos h]
  exact ⟨e, if_pos e⟩
theorem unp_range {P : Tab} {c : Int} (h : c < 0 ∨ (P.length : Int) ≤ c) : unpI P c = 2 ∧ unpL P c = P := by
  have e : unpI P c = 2 := if_pos h
  exact ⟨e, if_neg (by rw [e]; decide)⟩
theorem unp_state {P : Tab} {c : Int} (h0 : 0 ≤ c) (h1 : c < P.length) (h : (P.getD c.toNat []).getD 0 0 = -1) : unpI P c = 6 ∧ unpL P c = P := by
  have e : unpI P c = 6 := by unfold unpI; rw [if_neg (by omega), if_pos h]
  exact ⟨e, if_neg (by rw [e]; decide)⟩
theorem unp_ok {P : Tab} {c : Int} (h0 : 0 ≤ c) (h1 : c < P.length) (h : ¬ (P.getD c.toNat []).getD 0 0 = -1) : unpI P c = 0 ∧ unpL P c = P.modify c.toNat fun r => r.set 0 (-1) := by
  have e : unpI P c = 0 := by unfold unpI; rw [if_neg (by omega), if_neg h]
  exact ⟨e, if_pos e⟩
theorem pinL_len (P : Tab) (c now : Int) : (pinL P c now).length = P.length := by
  unfold pinL; split
  · exact List.length_modify ..
  · rfl
theorem unpL_len (P : Tab) (c : Int) : (unpL P c).length = P.length := by
  unfold unpL; split
  · exact List.length_modify ..
  · rfl
theorem ret_arg {A : Tab} {f : Int} (now : Int) (h : f < 0) : retI A f = 1 ∧ retL A f now = A := by
  have e : retI A f = 1 := if_pos h
  exact ⟨e, if_neg (by rw [e]; decide)⟩
theorem ret_ok {A : Tab} {f : Int} (now : Int) (h : 0 ≤ f) (h1 : (findK A f).length = 0) : retI A f = 0 ∧ retL A f now = putK A [f, now] := by
  have e : retI A f = 0 := by unfold retI; rw [if_neg (by omega), if_pos h1]
  exact ⟨e, if_pos e⟩
theorem ret_twice {A : Tab} {f : Int} (now : Int) (h : 0 ≤ f) (h1 : ¬ (findK A f).length = 0) : retI A f = 5 ∧ retL A f now = A := by
  have e : retI A f = 5 := by unfold retI; rw [if_neg (by omega), if_neg h1]
  exact ⟨e, if_neg (by rw [e]; decide)⟩
theorem putK_len (A : Tab) (row : List Int) : (putK A row).length ≤ A.length + 1 := by
  have h : ∀ A : Tab, (A.filter fun r => decide (hdK r < hdK row)).length + (A.filter fun r => decide (hdK row < hdK r)).length ≤ A.length := fun A => by
    induction A with
    | nil => simp
    | cons r A ih => simp only [List.filter_cons]; split <;> split <;> simp_all <;> omega
  have := h A
  unfold putK
  simp only [List.length_append, List.length_cons]
  omega
theorem retL_len (A : Tab) (f now : Int) : (retL A f now).length ≤ A.length + 1 := by
  unfold retL; split
  · exact putK_len ..
  · omega

/-! ### rows that were changed -/
theorem mem_modify {f : List Int → List Int} : ∀ {A : Tab} {n : Nat} {r : List Int}, r ∈ A.modify n f → r ∈ A ∨ ∃ s ∈ A, r = f s
  | [], n, r, h => by simp at h
  | a :: A, 0, r, h => by
    rw [List.modify_zero_cons] at h
    rcases List.mem_cons.1 h with rfl | h
    · exact .inr ⟨a, by simp, rfl⟩
    · exact .inl (List.mem_cons_of_mem _ h)
  | a :: A, n + 1, r, h => by
    rw [List.modify_succ_cons] at h
    rcases List.mem_cons.1 h with rfl | h
    · exact .inl (by simp)
    · rcases mem_modify h with h | ⟨s, hs, e⟩
      · exact .inl (List.mem_cons_of_mem _ h)
      · exact .inr ⟨s, List.mem_cons_of_mem _ hs, e⟩
theorem all_modify {p : List Int → Bool} {f : List Int → List Int} {A : Tab} {n : Nat} (h : A.all p = true) (hf : ∀ s ∈ A, p (f s) = true) : (A.modify n f).all p = true := by
  rw [List.all_eq_true] at *
  intro r hr
  rcases mem_modify hr with hr | ⟨s, hs, rfl⟩
  · exact h r hr
  · exact hf s hs
theorem set_row {k : CK} {r : List Int} (h : okRow [k] r) (x : Int) : r.set 0 x = [x] := by
  match r, h with
  | [a], _ => rfl
section
variable {P : Tab} {c now : Int} {k : CK} (hr : ∀ r ∈ P, okRow [k] r)
include hr
theorem pins_pin (h : pinsB P now = true) (h0 : 0 ≤ now) : pinsB (pinL P c now) now = true := by
  unfold pinL; split
  · exact all_modify h fun s hs => by rw [set_row (hr s hs)]; simp; omega
  · exact h
theorem pins_unp (h : pinsB P now = true) (h0 : 0 ≤ now) : pinsB (unpL P c) now = true := by
  unfold unpL; split
  · exact all_modify h fun s hs => by rw [set_row (hr s hs)]; simp; omega
  · exact h
theorem near_pin (h : nearB P now = true) : nearB (pinL P c now) now = true := by
  unfold pinL; split
  · exact all_modify h fun s hs => by rw [set_row (hr s hs)]; simp; omega
  · exact h
theorem near_unp (h : nearB P now = true) : nearB (unpL P c) now = true := by
  unfold unpL; split
  · exact all_modify h fun s hs => by rw [set_row (hr s hs)]; simp
  · exact h
theorem off_unp (h : offB P c = true) (h0 : 0 ≤ c) (h1 : c < P.length) : offB (unpL P c) (c + 1) = true := by
  have hk : c.toNat < P.length := by omega
  have e1 : (c + 1).toNat = c.toNat + 1 := by omega
  have hrow : ∀ Q : Tab, Q.take c.toNat = P.take c.toNat → Q[c.toNat]? = some [-1] → offB Q (c + 1) = true := fun Q e g => by
    unfold offB at *
    rw [e1, List.take_add_one, e, List.all_append, h, g]; rfl
  by_cases hc : (P.getD c.toNat []).getD 0 0 = -1
  · rw [(unp_state h0 h1 hc).2]
    refine hrow P rfl ?_
    rw [List.getElem?_eq_getElem hk]
    have := row1 (hr _ (List.getElem_mem hk))
    simp only [List.getD, List.getElem?_eq_getElem hk, Option.getD_some] at hc this
    rw [← this, hc]
  · rw [(unp_ok h0 h1 hc).2]
    refine hrow _ ?_ ?_
    · rw [List.take_modify]; exact List.modify_eq_self (by simp; omega)
    · rw [List.getElem?_modify, List.getElem?_eq_getElem hk]; simp [set_row (hr _ (List.getElem_mem hk))]
end
theorem off_none (P : Tab) : offB P 0 = true := rfl
theorem off_all {P : Tab} (h : offB P 4 = true) (hl : (P.length : Int) = 4) : P = [[-1], [-1], [-1], [-1]] := by
  match P, hl with
  | [a, b, c, d], _ => simpa [offB] using h
theorem pins_next {P : Tab} {now : Int} (h : pinsB P now = true) : pinsB P (now + 1) = true := by
  unfold pinsB at *
  rw [List.all_eq_true] at *
  intro r hr
  have := h r hr
  simp at this ⊢
  omega
theorem pins_at {P : Tab} {now c : Int} (h : pinsB P now = true) (h0 : 0 ≤ c) (h1 : c < P.length) : -1 ≤ (P.getD c.toNat []).getD 0 0 ∧ (P.getD c.toNat []).getD 0 0 ≤ now := by
  have := List.all_eq_true.1 h _ (getD_mem h0 h1)
  rw [Bool.and_eq_true, decide_eq_true_eq, decide_eq_true_eq] at this
  exact this
theorem near_at {P : Tab} {now c : Int} (h : nearB P now = true) (h0 : 0 ≤ c) (h1 : c < P.length) : (P.getD c.toNat []).getD 0 0 = -1 ∨ (now - 1 ≤ (P.getD c.toNat []).getD 0 0 ∧ (P.getD c.toNat []).getD 0 0 ≤ now) := by
  have := List.all_eq_true.1 h _ (getD_mem h0 h1)
  rw [Bool.or_eq_true, Bool.and_eq_true, decide_eq_true_eq, decide_eq_true_eq, decide_eq_true_eq] at this
  exact this
theorem late_near {P : Tab} {now : Int} (h : lateB (P.drop (0 : Int).toNat) now = false) : nearB P (now + 1) = true := by
  rw [show (0 : Int).toNat = 0 from rfl, List.drop_zero] at h
  unfold nearB
  rw [List.all_eq_true]
  intro r hr
  have := List.any_eq_false.1 h r hr
  simp at this ⊢
  by_cases e : r.getD 0 0 = -1
  · exact .inl (by simpa using e)
  · have := this (by simpa using e); right; omega
theorem past_ret {A : Tab} {f now : Int} (h : pastB A now = true) (h0 : 0 ≤ now) : pastB (retL A f now) now = true := by
  unfold retL; split
  · unfold pastB at *
    rw [List.all_eq_true] at *
    intro r hr
    rcases putK_mem hr with rfl | hr
    · simp; exact h0
    · exact h r hr
  · exact h
theorem past_next {A : Tab} {now : Int} (h : pastB A now = true) : pastB A (now + 1) = true := by
  unfold pastB at *
  rw [List.all_eq_true] at *
  intro r hr
  have := h r hr
  simp at this ⊢
  omega
theorem old_all {A : Tab} {now : Int} (h : pastB A now = true) (hn : now < 1000000) : ∀ r ∈ A, oldP (now + 2) r = true := by
  intro r hr
  have := List.all_eq_true.1 h r hr
  rw [Bool.and_eq_true, decide_eq_true_eq, decide_eq_true_eq] at this
  unfold oldP
  rw [wrap_in (by simp only [kmin]; omega) (by simp only [kmax]; omega)]
  exact decide_eq_true (by omega)
theorem key_old {A : Tab} {now : Int} (h : pastB A now = true) (hn : now < 1000000) : keyT (oldP (now + 2)) A = keyT allP A := by
  unfold keyT
  rw [List.filter_eq_self.2 (old_all h hn), show A.filter allP = A from List.filter_eq_self.2 fun _ _ => rfl]
theorem keep_old {A : Tab} {now : Int} (h : pastB A now = true) (hn : now < 1000000) : keepT (oldP (now + 2)) A = [] := by
  unfold keepT
  rw [List.filter_eq_nil_iff]
  intro r hr
  rw [old_all h hn r hr]; simp
theorem late_off (now : Int) : lateB ([[-1], [-1], [-1], [-1]].drop (0 : Int).toNat) now = false := by
  simp [lateB]

/-! ### Copy -/
theorem vis_flag (A : Tab) : visT (flagT A) = [] := by
  unfold visT flagT
  rw [List.map_eq_nil_iff, List.filter_eq_nil_iff]
  intro r hr
  obtain ⟨s, hs, rfl⟩ := List.mem_map.1 hr
  simp [lastK]
theorem vis_end {M : Tab} (hr : ∀ r ∈ M, okRow K3 r) (h : ¬ (0 : Int) < (remT M).length) : visT M = unflagT M := by
  have h0 : remT M = [] := List.length_eq_zero_iff.1 (by omega)
  have h01 : ∀ r ∈ M, lastK r = 0 ∨ lastK r = 1 := fun r hm => by obtain ⟨a, b, c, rfl, h⟩ := three (hr r hm); exact h
  unfold visT unflagT
  rw [rem_end h0 h01]
end Go.SF.C10
