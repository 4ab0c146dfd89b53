/- The plain law of chapter 22: a call's text is read as it, and what is read is shown as it was. -/
import Derived.Test.YtkkofhgdeapmbaaP2
namespace Go.SF.C22
open Go.SF
set_option linter.unusedVariables false

theorem kinds17 {k : Int} (h1 : 1 ≤ k) (h2 : k ≤ 17) : k = 1 ∨ k = 2 ∨ k = 3 ∨ k = 4 ∨ k = 5 ∨ k = 6 ∨ k = 7 ∨ k = 8 ∨ k = 9 ∨ k = 10 ∨ k = 11 ∨ k = 12 ∨ k = 13 ∨ k = 14 ∨ k = 15 ∨ k = 16 ∨ k = 17 := by omega
theorem args_in {k : Int} (h1 : 1 ≤ k) (h2 : k ≤ 17) : 0 ≤ argsF k ∧ argsF k ≤ 3 := by
  rcases kinds17 h1 h2 with h | h | h | h | h | h | h | h | h | h | h | h | h | h | h | h | h <;> subst h <;> decide
theorem args_out {k : Int} (h : ¬ (1 ≤ k ∧ k ≤ 17)) : argsF k = -1 := by unfold argsF; rw [if_neg h]
theorem args_range (k : Int) : -1 ≤ argsF k ∧ argsF k ≤ 3 := by
  by_cases h : 1 ≤ k ∧ k ≤ 17
  · have := args_in h.1 h.2; omega
  · rw [args_out h]; omega
theorem args_nn {k : Int} (h : 0 ≤ argsF k) : 1 ≤ k ∧ k ≤ 17 := by
  by_cases h' : 1 ≤ k ∧ k ≤ 17
  · exact h'
  · rw [args_out h'] at h; omega
theorem right_iff (k a b c : Int) : rightB k a b c = true ↔ 1 ≤ k ∧ k ≤ 17 ∧ (0 < argsF k ∨ a = 0) ∧ (1 < argsF k ∨ b = 0) ∧ (2 < argsF k ∨ c = 0) := by
  simp [rightB]
theorem name_no {k : Int} (h1 : 1 ≤ k) (h2 : k ≤ 17) : (32 : UInt8) ∉ nameL k := by
  rcases kinds17 h1 h2 with h | h | h | h | h | h | h | h | h | h | h | h | h | h | h | h | h <;> subst h <;> decide
theorem name_ne {k : Int} (h1 : 1 ≤ k) (h2 : k ≤ 17) : nameL k ≠ [] := by
  rcases kinds17 h1 h2 with h | h | h | h | h | h | h | h | h | h | h | h | h | h | h | h | h <;> subst h <;> decide
theorem named_name {k : Int} (h1 : 1 ≤ k) (h2 : k ≤ 17) : namedL (nameL k) = k := by
  rcases kinds17 h1 h2 with h | h | h | h | h | h | h | h | h | h | h | h | h | h | h | h | h <;> subst h <;> decide
theorem named_is {s : T8} (h : namedL s ≠ -1) : 1 ≤ namedL s ∧ namedL s ≤ 17 ∧ nameL (namedL s) = s := by
  unfold namedL at h ⊢
  split
  · rename_i i hi
    rw [List.findIdx?_eq_some_iff_getElem] at hi
    obtain ⟨hl, he, _⟩ := hi
    have hl' : i < 17 := by simpa [namesL] using hl
    have he := eq_of_beq he
    refine ⟨by omega, by omega, ?_⟩
    unfold nameL
    have e : ((i : Int) + 1).toNat = i + 1 := by omega
    have h9 : (namesL.drop 1)[i]? = some s := by rw [List.getElem?_eq_getElem hl, he]
    rw [List.getElem?_drop, Nat.add_comm] at h9
    rw [e, List.getD_eq_getElem?_getD, h9]
    rfl
  · rename_i hi
    rw [hi] at h
    exact absurd rfl h
theorem named_range (s : T8) : -1 ≤ namedL s ∧ namedL s ≤ 17 := by
  by_cases h : namedL s = -1
  · omega
  · have := named_is h; omega
theorem named_no {s : T8} (h : namedL s = -1) {k : Int} (h1 : 1 ≤ k) (h2 : k ≤ 17) : nameL k ≠ s := by
  intro e
  rw [← e, named_name h1 h2] at h
  omega
/-- The arguments of a right call, as a list. -/
def argL (k a b c : Int) : List Int := [a, b, c].take (argsF k).toNat
theorem show_eq {k a b c : Int} (h : rightB k a b c = true) : showL k a b c = nameL k ++ joinP (argL k a b c) := by
  unfold showL
  rw [if_pos h]
  rfl
theorem argL_len {k a b c : Int} (h : rightB k a b c = true) : (argL k a b c).length = (argsF k).toNat := by
  obtain ⟨h1, h2, _⟩ := (right_iff ..).1 h
  have := args_in h1 h2
  unfold argL
  rw [List.length_take]
  simp only [List.length_cons, List.length_nil]
  omega
theorem argL_get {k a b c : Int} (h : rightB k a b c = true) : (argL k a b c).getD 0 0 = a ∧ (argL k a b c).getD 1 0 = b ∧ (argL k a b c).getD 2 0 = c := by
  obtain ⟨h1, h2, ha, hb, hc⟩ := (right_iff ..).1 h
  have := args_in h1 h2
  have h4 : argsF k = 0 ∨ argsF k = 1 ∨ argsF k = 2 ∨ argsF k = 3 := by omega
  unfold argL
  rcases h4 with e | e | e | e <;> rw [e] at ha hb hc ⊢ <;> simp at ha hb hc ⊢ <;> omega
theorem argL_u64 {k a b c : Int} (ha : 0 ≤ a ∧ a ≤ 18446744073709551615) (hb : 0 ≤ b ∧ b ≤ 18446744073709551615) (hc : 0 ≤ c ∧ c ≤ 18446744073709551615) : u64L (argL k a b c) := by
  intro v hv
  have := List.mem_of_mem_take hv
  simp only [List.mem_cons, List.not_mem_nil, or_false] at this
  rcases this with rfl | rfl | rfl <;> assumption
/-- What a name and numbers are read as. -/
theorem parse_join {k : Int} {l : List Int} (h1 : 1 ≤ k) (h2 : k ≤ 17) (hl : l.length = (argsF k).toNat) (hu : u64L l) : parseL (nameL k ++ joinP l) = [0, k, l.getD 0 0, l.getD 1 0, l.getD 2 0] := by
  obtain ⟨e1, e2⟩ := cut_join (name_no h1 h2) (joinP_or l)
  unfold parseL
  rw [e1, named_name h1 h2, if_neg (by omega), ← hl, goP_join l _ _ _ hu e2]
  rfl
/-- T1: a right call's text is read as it. -/
theorem parse_show {k a b c : Int} (h : rightB k a b c = true) (ha : 0 ≤ a ∧ a ≤ 18446744073709551615) (hb : 0 ≤ b ∧ b ≤ 18446744073709551615) (hc : 0 ≤ c ∧ c ≤ 18446744073709551615) : parseL (showL k a b c) = [0, k, a, b, c] := by
  obtain ⟨h1, h2, _⟩ := (right_iff ..).1 h
  rw [show_eq h, parse_join h1 h2 (argL_len h) (argL_u64 ha hb hc)]
  obtain ⟨e1, e2, e3⟩ := argL_get h
  rw [e1, e2, e3]
/-- How a text may be read. -/
theorem parse_cases (s : T8) : (namedL (cutA s) = -1 ∧ parseL s = [4, 0, 0, 0, 0]) ∨ (namedL (cutA s) ≠ -1 ∧ parseL s = [11, 0, 0, 0, 0]) ∨
    ∃ k l, namedL (cutA s) = k ∧ 1 ≤ k ∧ k ≤ 17 ∧ s = nameL k ++ joinP l ∧ l.length = (argsF k).toNat ∧ u64L l ∧ parseL s = [0, k, l.getD 0 0, l.getD 1 0, l.getD 2 0] := by
  by_cases h : namedL (cutA s) = -1
  · exact .inl ⟨h, by unfold parseL; rw [if_pos h]⟩
  · obtain ⟨h1, h2, h3⟩ := named_is h
    cases hg : goP (argsF (namedL (cutA s))).toNat (cutB s) (cutC s) [] with
    | none => exact .inr (.inl ⟨h, by unfold parseL; rw [if_neg h, hg]⟩)
    | some vs =>
      obtain ⟨l, e1, e2, e3, e4⟩ := goP_some _ _ _ _ _ hg
      simp only [List.nil_append] at e1
      subst e1
      refine .inr (.inr ⟨_, vs, rfl, h1, h2, ?_, e2, e4, by unfold parseL; rw [if_neg h, hg]⟩)
      rw [h3, ← e3]
      exact cut_split s
theorem right_args {k : Int} {l : List Int} (h1 : 1 ≤ k) (h2 : k ≤ 17) (hl : l.length = (argsF k).toNat) : rightB k (l.getD 0 0) (l.getD 1 0) (l.getD 2 0) = true ∧ argL k (l.getD 0 0) (l.getD 1 0) (l.getD 2 0) = l := by
  have := args_in h1 h2
  have h4 : argsF k = 0 ∨ argsF k = 1 ∨ argsF k = 2 ∨ argsF k = 3 := by omega
  rw [right_iff]
  unfold argL
  rcases h4 with e | e | e | e <;> rw [e] at hl ⊢
  · have := List.eq_nil_of_length_eq_zero hl; subst this; simp [h1, h2]
  · obtain ⟨x, rfl⟩ := List.length_eq_one_iff.1 hl; simp [h1, h2]
  · match l, hl with
    | [x, y], _ => simp [h1, h2]
  · match l, hl with
    | [x, y, z], _ => simp [h1, h2]
/-- T2: what is read is right, and shown as it was. -/
theorem show_parse {s : T8} (h : (parseL s).getD 0 0 = 0) : rightB ((parseL s).getD 1 0) ((parseL s).getD 2 0) ((parseL s).getD 3 0) ((parseL s).getD 4 0) = true ∧
    showL ((parseL s).getD 1 0) ((parseL s).getD 2 0) ((parseL s).getD 3 0) ((parseL s).getD 4 0) = s := by
  rcases parse_cases s with ⟨_, e⟩ | ⟨_, e⟩ | ⟨k, l, _, h1, h2, hs, hl, hu, e⟩
  · rw [e] at h; simp at h
  · rw [e] at h; simp at h
  · rw [e]
    obtain ⟨r1, r2⟩ := right_args h1 h2 hl
    refine ⟨r1, ?_⟩
    show showL k (l.getD 0 0) (l.getD 1 0) (l.getD 2 0) = s
    rw [show_eq r1, r2, hs]
theorem u64_get {l : List Int} (h : u64L l) (i : Nat) : 0 ≤ l.getD i 0 ∧ l.getD i 0 ≤ 18446744073709551615 := by
  rw [List.getD_eq_getElem?_getD]
  cases hi : l[i]? with
  | none => simp
  | some v => exact h v (List.mem_of_getElem? hi)
theorem parse_range (s : T8) : (0 ≤ (parseL s).getD 0 0 ∧ (parseL s).getD 0 0 ≤ 11) ∧ (0 ≤ (parseL s).getD 1 0 ∧ (parseL s).getD 1 0 ≤ 17) ∧
    (0 ≤ (parseL s).getD 2 0 ∧ (parseL s).getD 2 0 ≤ 18446744073709551615) ∧ (0 ≤ (parseL s).getD 3 0 ∧ (parseL s).getD 3 0 ≤ 18446744073709551615) ∧ (0 ≤ (parseL s).getD 4 0 ∧ (parseL s).getD 4 0 ≤ 18446744073709551615) := by
  rcases parse_cases s with ⟨_, e⟩ | ⟨_, e⟩ | ⟨k, l, _, h1, h2, hs, hl, hu, e⟩
  · rw [e]; decide
  · rw [e]; decide
  · rw [e]
    refine ⟨by simp, ⟨?_, ?_⟩, u64_get hu 0, u64_get hu 1, u64_get hu 2⟩
    · show 0 ≤ k; omega
    · exact h2
/-- Two right calls with the same text are the same. -/
theorem show_inj {k a b c k' a' b' c' : Int} (h : rightB k a b c = true) (h' : rightB k' a' b' c' = true) (ha : 0 ≤ a ∧ a ≤ 18446744073709551615) (hb : 0 ≤ b ∧ b ≤ 18446744073709551615) (hc : 0 ≤ c ∧ c ≤ 18446744073709551615)
    (ha' : 0 ≤ a' ∧ a' ≤ 18446744073709551615) (hb' : 0 ≤ b' ∧ b' ≤ 18446744073709551615) (hc' : 0 ≤ c' ∧ c' ≤ 18446744073709551615) (e : showC k a b c = showC k' a' b' c') : k = k' ∧ a = a' ∧ b = b' ∧ c = c' := by
  have e := enc_inj e
  have h1 := parse_show h ha hb hc
  rw [e, parse_show h' ha' hb' hc'] at h1
  simpa [eq_comm] using h1
theorem show_ne {k a b c : Int} (h : rightB k a b c = true) : showL k a b c ≠ [] := by
  obtain ⟨h1, h2, _⟩ := (right_iff ..).1 h
  rw [show_eq h]
  intro e
  exact name_ne h1 h2 (List.append_eq_nil_iff.1 e).1
theorem show_len (k a b c : Int) : (showL k a b c).length ≤ 100 := by
  by_cases h : rightB k a b c = true
  · obtain ⟨h1, h2, _⟩ := (right_iff ..).1 h
    rw [show_eq h, List.length_append]
    have hn : (nameL k).length ≤ 20 := by
      rcases kinds17 h1 h2 with h | h | h | h | h | h | h | h | h | h | h | h | h | h | h | h | h <;> subst h <;> decide
    have hj : ∀ l : List Int, (joinP l).length ≤ 21 * l.length := by
      intro l
      induction l with
      | nil => simp [joinP]
      | cons v l ih =>
        have := dec_len v
        rw [joinP_cons]
        simp only [List.length_cons, List.length_append]
        omega
    have := hj (argL k a b c)
    have h3 : (argL k a b c).length ≤ 3 := by unfold argL; rw [List.length_take]; simp only [List.length_cons, List.length_nil]; omega
    omega
  · unfold showL; rw [if_neg h]; simp
/-! ### blanks -/
theorem cnt_app (a b : T8) : cntB (a ++ b) = cntB a + cntB b := by simp [cntB]
theorem cnt_no {a : T8} (h : (32 : UInt8) ∉ a) : cntB a = 0 := by
  unfold cntB
  have : a.filter (· == 32) = [] := by
    rw [List.filter_eq_nil_iff]
    intro x hx e
    exact h (eq_of_beq e ▸ hx)
  rw [this]; rfl
theorem cnt_join (l : List Int) : cntB (joinP l) = l.length := by
  induction l with
  | nil => rfl
  | cons v l ih =>
    have e : joinP (v :: l) = [32] ++ (decL v ++ joinP l) := rfl
    rw [e, cnt_app, cnt_app, cnt_no (dec_no v), ih]
    simp [cntB]; omega
theorem cnt_show {k a b c : Int} (h : rightB k a b c = true) : cntB (showL k a b c) = argsF k := by
  obtain ⟨h1, h2, _⟩ := (right_iff ..).1 h
  rw [show_eq h, cnt_app, cnt_no (name_no h1 h2), cnt_join, argL_len h]
  have := args_in h1 h2
  omega
end Go.SF.C22
