/- Words' call; the blanks of a text, one behind the other; what a right call's text tells. -/
import Derived.Test.YtkkofhgdeapmbaaP7
namespace Go.SF.C22
open Go Go.SF
set_option linter.unusedVariables false

def wd (A : Tab) (j : Int) : Int := (A.getD j.toNat []).getD 0 0
def decOK (A : Tab) : Prop := A.length = 4 ∧ 1 ≤ wd A 0 ∧ wd A 0 ≤ 17 ∧ (0 < argsF (wd A 0) ∨ wd A 1 = 0) ∧ (1 < argsF (wd A 0) ∨ wd A 2 = 0) ∧ (2 < argsF (wd A 0) ∨ wd A 3 = 0)
theorem dec_iff (A : Tab) : (A.length = 4 ∧ decB (wd A 0) (wd A 1) (wd A 2) (wd A 3) = true) ↔ decOK A := by
  have := right_iff (wd A 0) (wd A 1) (wd A 2) (wd A 3)
  unfold decB decOK
  simp only [Bool.and_eq_true, decide_eq_true_eq, this]
  omega
theorem decq_yes {A : Tab} (h : decOK A) : decQ A = [wd A 0, wd A 1, wd A 2, wd A 3, 1] := by
  unfold decQ
  exact if_pos ((dec_iff A).2 h)
theorem decq_no {A : Tab} (h : ¬ decOK A) : decQ A = [0, 0, 0, 0, 0] := by
  unfold decQ
  exact if_neg fun x => h ((dec_iff A).1 x)
theorem decV_yes {A : Tab} {k a b c : Int} (h : decOK A) (hk : wd A 0 = k) (ha : wd A 1 = a) (hb : wd A 2 = b) (hc : wd A 3 = c) :
    0 ≤ (decQ A).getD (Int.toNat 0) 0 ∧ (decQ A).getD (Int.toNat 0) 0 ≤ 17 ∧ (decQ A).getD (Int.toNat 0) 0 = k ∧ (decQ A).getD (Int.toNat 1) 0 = a ∧ (decQ A).getD (Int.toNat 2) 0 = b ∧ (decQ A).getD (Int.toNat 3) 0 = c ∧ (decQ A).getD (Int.toNat 4) 0 = 1 := by
  rw [decq_yes h]
  obtain ⟨_, g1, g2, _⟩ := h
  exact ⟨by show (0 : Int) ≤ wd A 0; omega, g2, hk, ha, hb, hc, rfl⟩
theorem decV_no {A : Tab} (h : ¬ decOK A) :
    0 ≤ (decQ A).getD (Int.toNat 0) 0 ∧ (decQ A).getD (Int.toNat 0) 0 ≤ 17 ∧ (decQ A).getD (Int.toNat 0) 0 = 0 ∧ (decQ A).getD (Int.toNat 1) 0 = 0 ∧ (decQ A).getD (Int.toNat 2) 0 = 0 ∧ (decQ A).getD (Int.toNat 3) 0 = 0 ∧ ¬ (decQ A).getD (Int.toNat 4) 0 = 1 := by
  rw [decq_no h]
  decide
theorem wrapI {x : Int} (h : 0 ≤ x) (h' : x ≤ 17) : IntKind.wrap .i64 x = x := wrap_i h (by omega)

/-! ### blanks -/
theorem cnt_step {s i : Int} (h0 : 0 ≤ i) (h1 : i < lenS s) : cntB ((strB s).take (i + 1).toNat) = cntB ((strB s).take i.toNat) + (if atS s i = 32 then 1 else 0) := by
  unfold lenS at h1
  have hi : i.toNat < (strB s).length := by omega
  have e : (i + 1).toNat = i.toNat + 1 := by omega
  rw [e, List.take_add_one, List.getElem?_eq_getElem hi, cnt_app]
  have ea : atS s i = ((strB s)[i.toNat].toNat : Int) := by
    unfold atS; rw [List.getD_eq_getElem?_getD, List.getElem?_eq_getElem hi]; rfl
  rw [ea]
  congr 1
  unfold cntB
  generalize (strB s)[i.toNat] = b
  by_cases hb : b = 32
  · subst hb; rfl
  · have : ¬ ((b.toNat : Int) = 32) := by
      intro h
      apply hb
      have h2 : b.toNat = (32 : UInt8).toNat := by simpa using (by omega : b.toNat = 32)
      exact UInt8.toNat_inj.1 h2
    rw [if_neg this]
    simp [hb]
theorem cnt_all {s i : Int} (h : lenS s ≤ i) : cntB ((strB s).take i.toNat) = cntB (strB s) := by
  unfold lenS at h
  rw [List.take_of_length_le (by omega)]
theorem cnt_rng (s : Int) : 0 ≤ cntB (strB s) ∧ cntB (strB s) ≤ lenS s := by
  unfold cntB lenS
  have := List.length_filter_le (fun b : UInt8 => b == 32) (strB s)
  omega
theorem cnt_zero (s : Int) : cntB ((strB s).take (Int.toNat 0)) = 0 := rfl
theorem cnt_text {k a b c : Int} (h : rightB k a b c = true) : cntB (strB (showC k a b c)) = argsF k := by
  unfold showC; rw [strB_enc]; exact cnt_show h
theorem show_nz {k a b c : Int} (h : rightB k a b c = true) : ¬ showC k a b c = 0 := by
  intro e
  unfold showC at e
  rw [← enc_nil] at e
  exact show_ne h (enc_inj e)
theorem rem17 {x : Int} (h : 0 ≤ x) : 0 ≤ x.tmod 17 ∧ x.tmod 17 ≤ 16 := by
  rw [Int.tmod_eq_emod_of_nonneg h]; omega
/-- A text of a call that is right, or that of none. -/
theorem text_cases {k a b c : Int} (h1 : 1 ≤ k) (h2 : k ≤ 17) :
    (showC k a b c = 0 ∧ ¬ ((0 < argsF k ∨ a = 0) ∧ (1 < argsF k ∨ b = 0) ∧ (2 < argsF k ∨ c = 0))) ∨
    (¬ showC k a b c = 0 ∧ cntB (strB (showC k a b c)) = argsF k ∧ ((0 < argsF k ∨ a = 0) ∧ (1 < argsF k ∨ b = 0) ∧ (2 < argsF k ∨ c = 0))) := by
  by_cases h : rightB k a b c = true
  · exact .inr ⟨show_nz h, cnt_text h, ((right_iff ..).1 h).2.2⟩
  · exact .inl ⟨show_no (by simpa using h), fun x => h ((right_iff ..).2 ⟨h1, h2, x⟩)⟩
theorem right_over {k a b c : Int} (h : 17 < k) : rightB k a b c = false := by
  rw [Bool.eq_false_iff, Ne, right_iff]; omega
theorem right_many {k : Int} : 17 < k → argsF k = -1 := fun h => args_out (by omega)
/-- The text that is read is shown as it was. -/
theorem back_show {s : Int} (hs : 0 ≤ s) (h : (parseL (strB s)).getD (Int.toNat 0) 0 = 0) :
    rightB ((parseL (strB s)).getD (Int.toNat 1) 0) ((parseL (strB s)).getD (Int.toNat 2) 0) ((parseL (strB s)).getD (Int.toNat 3) 0) ((parseL (strB s)).getD (Int.toNat 4) 0) = true ∧
    showC ((parseL (strB s)).getD (Int.toNat 1) 0) ((parseL (strB s)).getD (Int.toNat 2) 0) ((parseL (strB s)).getD (Int.toNat 3) 0) ((parseL (strB s)).getD (Int.toNat 4) 0) = s := by
  obtain ⟨h1, h2⟩ := show_parse h
  exact ⟨h1, (code_show hs).2 h2⟩
theorem back_parse {k a b c : Int} (h : rightB k a b c = true) (ha : 0 ≤ a ∧ a ≤ 18446744073709551615) (hb : 0 ≤ b ∧ b ≤ 18446744073709551615) (hc : 0 ≤ c ∧ c ≤ 18446744073709551615) : parseL (strB (showC k a b c)) = [0, k, a, b, c] := by
  unfold showC; rw [strB_enc]; exact parse_show h ha hb hc
end Go.SF.C22
