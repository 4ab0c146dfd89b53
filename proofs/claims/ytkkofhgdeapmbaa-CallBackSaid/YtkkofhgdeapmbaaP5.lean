/- The plain law of chapter 22, said of codes: what the proofs of the contracts ask. -/
import Derived.Test.YtkkofhgdeapmbaaP4
namespace Go.SF.C22
open Go Go.SF
set_option linter.unusedVariables false

theorem find_KT (x : Int) : findK [[1, 110446801745254, 0], [2, 28541623020515450, 1], [3, 111533579466086, 2], [4, 32482203839654510, 1], [5, 31933599211480181, 2], [6, 1836081765, 1], [7, 500186510182, 2], [8, 482771166835, 3], [9, 1969384550, 3], [10, 1667392620, 1], [11, 126883927714918, 1], [12, 1886479983, 1], [13, 1667919717, 2], [14, 1952870245, 1], [15, 1903193453, 0], [16, 431332815974, 1], [17, 500236183153, 0]] x
    = if 1 ≤ x ∧ x ≤ 17 then [[x, nameF x, argsF x]] else [] := by
  split
  · rename_i h
    rcases kinds17 h.1 h.2 with h | h | h | h | h | h | h | h | h | h | h | h | h | h | h | h | h <;> subst h <;> decide
  · rename_i h
    unfold findK
    rw [List.filter_eq_nil_iff]
    intro r hr
    simp only [List.mem_cons, List.not_mem_nil, or_false] at hr
    simp only [decide_eq_true_eq]
    intro e
    rcases hr with rfl | rfl | rfl | rfl | rfl | rfl | rfl | rfl | rfl | rfl | rfl | rfl | rfl | rfl | rfl | rfl | rfl <;> subst e <;> exact h (by decide)
theorem args_iff (k : Int) : 0 ≤ argsF k ↔ (1 ≤ k ∧ k ≤ 17) := ⟨args_nn, fun h => (args_in h.1 h.2).1⟩
theorem wrap_u {x : Int} (h : 0 ≤ x) (h' : x ≤ 18446744073709551615) : IntKind.wrap .u64 x = x := by
  simp [IntKind.wrap, IntKind.bits, IntKind.signed]; omega
theorem wrap_i {x : Int} (h : 0 ≤ x) (h' : x ≤ 100000) : IntKind.wrap .i64 x = x := by
  simp [IntKind.wrap, IntKind.bits, IntKind.signed]; omega
theorem wrap_64 (x : Int) : IntKind.wrap .u64 x = x % 18446744073709551616 := by
  simp [IntKind.wrap, IntKind.bits, IntKind.signed]
theorem wrap_8 (x : Int) : IntKind.wrap .u8 x = x % 256 := by
  simp [IntKind.wrap, IntKind.bits, IntKind.signed]
/-! ### digits -/
theorem dec_le (w : Int) : lenS (decC w) ≤ 20 := by unfold decC; rw [len_enc]; have := dec_len w; omega
theorem dec_nn (w : Int) : 0 ≤ decC w := enc_nn _
theorem one_b {w : Int} (h0 : 0 ≤ w) (h1 : w < 10) : ofB [w + 48] = encL (decL w) := by
  rw [dec_small h0 h1]
  unfold ofB
  have e : (w + 48).toNat = 48 + w.toNat := by omega
  simp only [List.map_cons, List.map_nil, e]
theorem dec_a {w : Int} (h0 : 0 ≤ w) (h1 : w < 10) : 0 ≤ decC w ∧ lenS (decC w) ≤ 20 ∧ decC w = ofB [w + 48] :=
  ⟨dec_nn w, dec_le w, (one_b h0 h1).symm⟩
theorem dec_b {w : Int} (h0 : 10 ≤ w) (h1 : w ≤ 18446744073709551615) : 0 ≤ decC w ∧ lenS (decC w) ≤ 20 ∧ decC w = catS (decC (IntKind.wrap .u64 (w.tdiv 10))) (ofB [w.tmod 10 + 48]) := by
  refine ⟨dec_nn w, dec_le w, ?_⟩
  rw [Int.tdiv_eq_ediv_of_nonneg (by omega), Int.tmod_eq_emod_of_nonneg (by omega), wrap_u (by omega) (by omega), one_b (by omega) (by omega)]
  simp only [catS, decC, strB_enc]
  rw [dec_big h0 h1]
theorem dig_a {w : Int} (h0 : 0 ≤ w) (h1 : w < 10) : 0 ≤ decC w ∧ lenS (decC w) ≤ 20 ∧ decC w = subS 232321984496799787268410 w (w + 1) := by
  refine ⟨dec_nn w, dec_le w, ?_⟩
  have e : (232321984496799787268410 : Int) = (encL [48, 49, 50, 51, 52, 53, 54, 55, 56, 57] : Nat) := by decide
  have h : w = 0 ∨ w = 1 ∨ w = 2 ∨ w = 3 ∨ w = 4 ∨ w = 5 ∨ w = 6 ∨ w = 7 ∨ w = 8 ∨ w = 9 := by omega
  unfold subS
  rw [e, strB_enc]
  rcases h with rfl | rfl | rfl | rfl | rfl | rfl | rfl | rfl | rfl | rfl <;> decide
theorem dig_b {w : Int} (h0 : 10 ≤ w) (h1 : w ≤ 18446744073709551615) : 0 ≤ decC w ∧ lenS (decC w) ≤ 20 ∧ decC w = catS (decC (IntKind.wrap .u64 (w.tdiv 10))) (decC (w.tmod 10)) := by
  obtain ⟨a, b, c⟩ := dec_b h0 h1
  refine ⟨a, b, ?_⟩
  rw [c, Int.tmod_eq_emod_of_nonneg (by omega), one_b (by omega) (by omega)]
  rfl
theorem dec_c {w m n : Int} (h0 : 0 ≤ w) (h1 : w ≤ 18446744073709551615) (h : w < n) (hm : n ≤ 10 * m) (h2 : ¬ IntKind.wrap .u64 (w.tdiv 10) < m) : False := by
  rw [Int.tdiv_eq_ediv_of_nonneg (by omega), wrap_u (by omega) (by omega)] at h2
  omega
/-! ### show -/
theorem show_le (k a b c : Int) : lenS (showC k a b c) ≤ 100 := by unfold showC; rw [len_enc]; have := show_len k a b c; omega
theorem show_nn (k a b c : Int) : 0 ≤ showC k a b c := enc_nn _
theorem show_no {k a b c : Int} (h : rightB k a b c = false) : showC k a b c = 0 := by unfold showC showL; rw [h]; rfl
theorem c33 : (33 : Int) = (encL [32] : Nat) := by decide
section
variable {k a b c n : Int}
theorem sh0 (hn : n = (encL (nameL k) : Nat)) (h : rightB k a b c = true) (h3 : argsF k = 0) : showC k a b c = n := by
  unfold showC; rw [show_eq h]; unfold argL; rw [h3, hn]; simp [joinP]
theorem sh1 (hn : n = (encL (nameL k) : Nat)) (h : rightB k a b c = true) (h3 : argsF k = 1) : showC k a b c = catS n (catS 33 (decC a)) := by
  unfold showC; rw [show_eq h]; unfold argL; rw [h3, hn, c33]; simp [joinP, partL, catS, decC, strB_enc]
theorem sh2 (hn : n = (encL (nameL k) : Nat)) (h : rightB k a b c = true) (h3 : argsF k = 2) : showC k a b c = catS (catS n (catS 33 (decC a))) (catS 33 (decC b)) := by
  unfold showC; rw [show_eq h]; unfold argL; rw [h3, hn, c33]; simp [joinP, partL, catS, decC, strB_enc]
theorem sh3 (hn : n = (encL (nameL k) : Nat)) (h : rightB k a b c = true) (h3 : argsF k = 3) : showC k a b c = catS (catS (catS n (catS 33 (decC a))) (catS 33 (decC b))) (catS 33 (decC c)) := by
  unfold showC; rw [show_eq h]; unfold argL; rw [h3, hn, c33]; simp [joinP, partL, catS, decC, strB_enc]
theorem sr1 (hn : n = (encL (nameL k ++ [32]) : Nat)) (h : rightB k a b c = true) (h3 : argsF k = 1) : showC k a b c = catS n (decC a) := by
  unfold showC; rw [show_eq h]; unfold argL; rw [h3, hn]; simp [joinP, partL, catS, decC, strB_enc]
theorem sr2 (hn : n = (encL (nameL k ++ [32]) : Nat)) (h : rightB k a b c = true) (h3 : argsF k = 2) : showC k a b c = catS (catS (catS n (decC a)) 33) (decC b) := by
  unfold showC; rw [show_eq h]; unfold argL; rw [h3, hn, c33]; simp [joinP, partL, catS, decC, strB_enc]
theorem sr3 (hn : n = (encL (nameL k ++ [32]) : Nat)) (h : rightB k a b c = true) (h3 : argsF k = 3) : showC k a b c = catS (catS (catS (catS (catS n (decC a)) 33) (decC b)) 33) (decC c) := by
  unfold showC; rw [show_eq h]; unfold argL; rw [h3, hn, c33]; simp [joinP, partL, catS, decC, strB_enc]
end
end Go.SF.C22
