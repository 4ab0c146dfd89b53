/- One step of the search in depth, and of the rounds, in plain Lean. -/
import Derived.Test.YtjeafkeofbmgcaaP2
import Derived.Test.YtjeafkeofbmgcaaP5
namespace Go.SF.C19
open Go.SF
set_option linter.unusedVariables false

variable {G S : Tab} {n i k : Int}
theorem fold_at {f : Tab → List Int → Tab} (h : 0 ≤ i) (hi : i < G.length) : (G.drop i.toNat).foldl f S = (G.drop (i + 1).toNat).foldl f (f S (G.getD i.toNat [])) := by
  rw [drop_step h hi, List.foldl_cons]
theorem fold_end {f : Tab → List Int → Tab} (hi : ¬ i < G.length) : (G.drop i.toNat).foldl f S = S := by
  rw [List.drop_of_length_le (by omega), List.foldl_nil]
theorem step_dead {f : Tab → Int → Tab} {r : List Int} (h : okRow K5 r) (hz : allZ r) : stepR f n S r = S := by
  unfold stepR; rw [live_f h hz, if_neg Bool.false_ne_true]
theorem step_own {f : Tab → Int → Tab} {r : List Int} (h : okRow K5 r) (hz : ¬ allZ r) (ho : r.getD 0 0 = n) : stepR f n S r = f S (r.getD 2 0) := by
  unfold stepR; rw [live_t h hz, if_pos rfl, if_pos ho]
theorem step_to {f : Tab → Int → Tab} {r : List Int} (h : okRow K5 r) (hz : ¬ allZ r) (ho : ¬ r.getD 0 0 = n) (ht : r.getD 2 0 = n) : stepR f n S r = f S (r.getD 0 0) := by
  unfold stepR; rw [live_t h hz, if_pos rfl, if_neg ho, if_pos ht]
theorem step_no {f : Tab → Int → Tab} {r : List Int} (h : okRow K5 r) (ho : ¬ r.getD 0 0 = n) (ht : ¬ r.getD 2 0 = n) : stepR f n S r = S := by
  unfold stepR; rw [if_neg ho, if_neg ht]; split <;> rfl
theorem okGB_at (h : okGB G = true) {r : List Int} (hr : r ∈ G) (h5 : okRow K5 r) (hz : ¬ allZ r) : 1 ≤ r.getD 0 0 ∧ r.getD 0 0 ≤ 16 ∧ 1 ≤ r.getD 2 0 ∧ r.getD 2 0 ≤ 16 := by
  have := List.all_eq_true.1 h r hr
  rw [live_t h5 hz] at this
  simp only [guestB, Bool.not_true, Bool.false_or, Bool.and_eq_true, decide_eq_true_eq] at this
  omega
theorem okGB_ok (h : okGB G = true) : okG G ∧ okL G := by
  constructor <;> intro r hr
  · intro hl
    have := List.all_eq_true.1 h r hr
    rw [hl] at this
    simp only [guestB, Bool.not_true, Bool.false_or, Bool.and_eq_true, decide_eq_true_eq] at this
    unfold inG; omega
  · have := List.all_eq_true.1 h r hr
    simp only [Bool.and_eq_true, beq_iff_eq] at this
    exact this.1
theorem okS_of (hl : (S.length : Int) = 17) (h : ∀ r ∈ S, okRow [.b] r) : okS S := by
  refine ⟨by omega, fun r hr => ?_⟩
  have := h r hr
  match r, this with
  | [x], _ => rfl
theorem seen_0 (h : (S.getD n.toNat []).getD 0 0 = 0) : seenB S n = false := by unfold seenB; rw [h]; rfl
theorem seen_1 (hl : (S.length : Int) = 17) (h : ∀ r ∈ S, okRow [.b] r) (h0 : 0 ≤ n) (h1 : n ≤ 16) (hz : ¬ (S.getD n.toNat []).getD 0 0 = 0) : seenB S n = true := by
  have := h _ (getD_mem (A := S) (i := n) h0 (by omega))
  unfold seenB
  generalize S.getD n.toNat [] = r at *
  match r, this with
  | [x], h => simp only [okRow, okCell] at h; simp at hz ⊢; omega
theorem dfs_seen (k : Nat) (h : seenB S n = true) : dfs G k S n = S := by
  cases k with
  | zero => rfl
  | succ k => rw [dfs, if_pos h]
theorem dfs_not (h0 : 0 ≤ k) (h : seenB S n = false) : dfs G (k + 1).toNat S n = G.foldl (stepR (dfs G k.toNat) n) (seeT S n) := by
  rw [show (k + 1).toNat = k.toNat + 1 by omega, dfs, if_neg (by rw [h]; exact Bool.false_ne_true)]
end Go.SF.C19
