/- The plain law of chapter 22, said of codes: the document's words and its reading. -/
import Derived.Test.YtkkofhgdeapmbaaP6
namespace Go.SF.C22
open Go Go.SF
set_option linter.unusedVariables false

/-! ### words -/
theorem words_hit {s i : Int} (h0 : 0 ≤ i) (h1 : i = lenS s ∨ (i < lenS s ∧ atS s i = 32)) : encW (wordsA (strB s) i.toNat).1 ++ [[subS s ((wordsA (strB s) i.toNat).2 : Nat) i]] = encW (wordsA (strB s) (i + 1).toNat).1 ∧ i + 1 = ((wordsA (strB s) (i + 1).toNat).2 : Nat) := by
  have hc : i.toNat ≥ (strB s).length ∨ (strB s)[i.toNat]? = some 32 := by
    rcases h1 with h1 | ⟨h1, h2⟩
    · left; unfold lenS at h1; omega
    · obtain ⟨b, hg, hat⟩ := at_get h0 h1
      rw [nat_u8 (hat.symm.trans h2)] at hg
      exact .inr hg
  rw [show (i + 1).toNat = i.toNat + 1 by omega]
  simp only [wordsA]
  rw [if_pos hc]
  refine ⟨?_, by simp only; omega⟩
  simp [encW, subS]
theorem words_skip {s i : Int} (h0 : 0 ≤ i) (h1 : i < lenS s) (h2 : ¬ atS s i = 32) : wordsA (strB s) (i + 1).toNat = wordsA (strB s) i.toNat := by
  rw [show (i + 1).toNat = i.toNat + 1 by omega]
  simp only [wordsA]
  rw [if_neg]
  rintro (h | h)
  · unfold lenS at h1; omega
  · obtain ⟨b, hg, hat⟩ := at_get h0 h1
    rw [hg] at h
    have := Option.some.inj h
    subst this
    exact h2 hat
theorem words_end {s i : Int} (h0 : i = lenS s + 1) : (wordsA (strB s) i.toNat).1 = wordsL (strB s) := by
  unfold wordsL
  rw [show i.toNat = (strB s).length + 1 by unfold lenS at h0; omega]
theorem encW_len (W : List T8) : (encW W).length = W.length := by simp [encW]
theorem words_len (s : Int) (h : lenS s ≤ 1000) : 1 ≤ ((encW (wordsL (strB s))).length : Int) ∧ ((encW (wordsL (strB s))).length : Int) ≤ 1001 := by
  obtain ⟨_, _, h3, h4⟩ := words_join (strB s)
  rw [encW_len]
  unfold lenS at h
  omega
theorem word_at (W : List T8) (j : Nat) : ((encW W).getD j []).getD 0 0 = (encL (W.getD j []) : Nat) := by
  rw [List.getD_eq_getElem?_getD (l := encW W), List.getD_eq_getElem?_getD (l := W)]
  unfold encW
  rw [List.getElem?_map]
  cases W[j]? with
  | none => rfl
  | some w => rfl
theorem word_le {s : T8} (j : Nat) : ((wordsL s).getD j []).length ≤ s.length := by
  obtain ⟨h1, _⟩ := words_join s
  rw [List.getD_eq_getElem?_getD]
  cases h : (wordsL s)[j]? with
  | none => simp
  | some w =>
    have hm := List.mem_of_getElem? h
    have key : ∀ W : List T8, w ∈ W → w.length + 1 ≤ (joinW W).length := by
      intro W
      induction W with
      | nil => intro h; cases h
      | cons x W ih =>
        intro h
        have e : joinW (x :: W) = x ++ [32] ++ joinW W := rfl
        rw [e]
        simp only [List.length_append, List.length_cons, List.length_nil]
        rcases List.mem_cons.1 h with rfl | h
        · omega
        · have := ih h; omega
    have := key _ hm
    rw [h1] at this
    simp at this ⊢
    omega
/-! ### kinds -/
theorem kind_hit {w code k : Int} (h1 : 1 ≤ k) (h2 : k ≤ 17) (hc : code = nameF k) (h : w = code) : k = kindA (strB w) (k + 1).toNat := by
  rw [show (k + 1).toNat = k.toNat + 1 by omega, kindA_step (by omega), h, hc]
  unfold nameF
  rw [strB_enc, show ((k.toNat : Nat) : Int) = k by omega, if_pos rfl]
theorem kind_miss {w code k : Int} (h1 : 1 ≤ k) (h2 : k ≤ 17) (h0 : 0 ≤ w) (hc : code = nameF k) (h : ¬ w = code) : kindA (strB w) k.toNat = kindA (strB w) (k + 1).toNat := by
  rw [show (k + 1).toNat = k.toNat + 1 by omega, kindA_step (by omega), show ((k.toNat : Nat) : Int) = k by omega, if_neg]
  intro e
  exact h (((name_code h0).2 e).symm.trans hc.symm)
theorem kind_range (w : Int) : 0 ≤ kindA (strB w) 18 ∧ kindA (strB w) 18 ≤ 17 := by
  have := kindA_le (strB w) 18
  omega
theorem kind_one (t : T8) : kindA t (Int.toNat 1) = 0 := by
  show kindA t (0 + 1) = 0
  simp [kindA]
/-! ### the document's reading -/
theorem kind_word (s : Int) : kindA (strB (((encW (wordsL (strB s))).getD (Int.toNat 0) []).getD 0 0)) 18 = kindA (cutA (strB s)) 18 := by
  rw [word_at, strB_enc]
  show kindA ((wordsL (strB s)).getD 0 []) 18 = _
  rw [words_head]
theorem num_word (s : Int) (j : Int) : numR (strB (((encW (wordsL (strB s))).getD j.toNat []).getD 0 0)) = numR ((wordsL (strB s)).getD j.toNat []) := by rw [word_at, strB_enc]
theorem code_show {s k a b c : Int} (hs : 0 ≤ s) : showC k a b c = s ↔ showL k a b c = strB s := by
  unfold showC
  constructor
  · intro h; rw [← h, strB_enc]
  · intro h; rw [h]; exact enc_strB hs
theorem numW_in {s : Int} {j : Nat} (h : (j : Int) < (encW (wordsL (strB s))).length) : numW (strB s) j = numR ((wordsL (strB s)).getD j []) := by
  rw [encW_len] at h
  unfold numW
  rw [if_pos (by omega)]
theorem numW_out {s : Int} {j : Nat} (h : ¬ (j : Int) < (encW (wordsL (strB s))).length) : numW (strB s) j = 0 := by
  rw [encW_len] at h
  unfold numW
  rw [if_neg (by omega)]
theorem word_len {s : Int} (j : Nat) (h : lenS s ≤ 1000) : lenS (((encW (wordsL (strB s))).getD j []).getD 0 0) ≤ 1000 := by
  rw [word_at, len_enc]
  have := word_le (s := strB s) j
  unfold lenS at h
  omega
theorem okN_dig {s : T8} (h : okN s = true) : digB s = true := by
  simp only [okN, Bool.and_eq_true] at h; exact h.1
/-- What the document says of a text, and its bounds. -/
def parV (s : Int) (P : List Int) : Prop := 0 ≤ (parseL (strB s)).getD 2 0 ∧ (parseL (strB s)).getD 2 0 ≤ 18446744073709551615 ∧ 0 ≤ (parseL (strB s)).getD 3 0 ∧ (parseL (strB s)).getD 3 0 ≤ 18446744073709551615 ∧ 0 ≤ (parseL (strB s)).getD 4 0 ∧ (parseL (strB s)).getD 4 0 ≤ 18446744073709551615 ∧
  0 ≤ (parseL (strB s)).getD 1 0 ∧ (parseL (strB s)).getD 1 0 ≤ 17 ∧ 0 ≤ (parseL (strB s)).getD 0 0 ∧ (parseL (strB s)).getD 0 0 ≤ 11 ∧
  (parseL (strB s)).getD 1 0 = P.getD 1 0 ∧ (parseL (strB s)).getD 2 0 = P.getD 2 0 ∧ (parseL (strB s)).getD 3 0 = P.getD 3 0 ∧ (parseL (strB s)).getD 4 0 = P.getD 4 0 ∧ (parseL (strB s)).getD 0 0 = P.getD 0 0
theorem parV_of {s : Int} {P : List Int} (h : parseL (strB s) = P) : parV s P := by
  obtain ⟨a, b, c, d, e⟩ := parse_range (strB s)
  exact ⟨c.1, c.2, d.1, d.2, e.1, e.2, b.1, b.2, a.1, a.2, by rw [h], by rw [h], by rw [h], by rw [h], by rw [h]⟩
end Go.SF.C22
