/- The document's functions, row by row, in plain Lean. -/
import Derived.Test.YtjeafkeofbmgcaaP7
import Derived.Test.YtjeafkeofbmgcaaP3
namespace Go.SF.C19
open Go.SF
set_option linter.unusedVariables false

variable {G T S : Tab} {a b c n i k g o p t : Int}
theorem zero_of (hG : okGB G = true) {r : List Int} (hr : r ∈ G) (h5 : okRow K5 r) (h : ¬ 0 < r.getD 0 0) : allZ r := by
  by_cases hz : allZ r
  · exact hz
  · have := okGB_at hG hr h5 hz; omega
theorem none_0 (hG : okGB T = true) (hT : ∀ r ∈ T, okRow K5 r) (h0 : 0 ≤ i) (h1 : i < T.length) (h : ¬ 0 < (T.getD i.toNat []).getD 0 0) : noneB T i = true :=
  none_z hT h0 h1 (zero_of hG (getD_mem h0 h1) (hT _ (getD_mem h0 h1)) h)
/-! ### Offer, from the last row down -/
theorem take_next (h0 : 0 ≤ i) (h1 : i < T.length) : T.take (i + 1).toNat = T.take i.toNat ++ [T.getD i.toNat []] := by
  have hk : i.toNat < T.length := by omega
  rw [show (i + 1).toNat = i.toNat + 1 by omega, List.take_add_one, List.getElem?_eq_getElem hk]
  simp [List.getD, hk]
theorem any_step (h0 : 0 ≤ i) (h1 : i < T.length) : anyB T i o p t = (anyB T (i - 1) o p t || sameR o p t (T.getD i.toNat [])) := by
  unfold anyB
  rw [take_next h0 h1, List.any_append, show i - 1 + 1 = i by omega]
  simp
theorem any_end (h : ¬ 0 ≤ i) : anyB T i o p t = false := by
  unfold anyB; rw [show (i + 1).toNat = 0 by omega, List.take_zero]; rfl
theorem idx_cat {q : List Int → Bool} : ∀ {A B : Tab} {j : Int}, idxT q j (A ++ B) = idxT q j A ++ idxT q (j + A.length) B
  | [], B, j => by simp [idxT]
  | r :: A, B, j => by
    simp only [List.cons_append, idxT, idx_cat (A := A), List.length_cons]
    rw [show j + 1 + (A.length : Int) = j + ((A.length + 1 : Nat) : Int) by omega]
    split <;> simp
theorem plc_step (h0 : 0 ≤ i) (h1 : i < T.length) : plcI T i k = if freeB (T.getD i.toNat []) then plcI T (i - 1) i else plcI T (i - 1) k := by
  unfold plcI
  rw [take_next h0 h1, idx_cat, show i - 1 + 1 = i by omega, List.length_take, show (0 : Int) + ((min i.toNat T.length : Nat) : Int) = i by omega]
  simp only [idxT]
  generalize idxT freeB 0 (T.take i.toNat) = L
  cases hf : freeB (T.getD i.toNat []) with
  | true => cases L <;> rfl
  | false => cases L <;> simp
theorem plc_free (hG : okGB T = true) (hT : ∀ r ∈ T, okRow K5 r) (h0 : 0 ≤ i) (h1 : i < T.length) (h : (T.getD i.toNat []).getD 0 0 = 0) : plcI T i k = plcI T (i - 1) i := by
  have hm := getD_mem h0 h1
  rw [plc_step h0 h1, free_t (hT _ hm) (zero_of hG hm (hT _ hm) (by omega)), if_pos rfl]
theorem plc_not (hT : ∀ r ∈ T, okRow K5 r) (h0 : 0 ≤ i) (h1 : i < T.length) (h : ¬ (T.getD i.toNat []).getD 0 0 = 0) : plcI T i k = plcI T (i - 1) k := by
  have hm := getD_mem h0 h1
  rw [plc_step h0 h1, free_f (hT _ hm) (by unfold allZ; omega), if_neg Bool.false_ne_true]
theorem plc_end (h : ¬ 0 ≤ i) : plcI T i k = k := by
  unfold plcI; rw [show (i + 1).toNat = 0 by omega, List.take_zero]; rfl
theorem any_idx (q : List Int → Bool) : ∀ (T : Tab) (j : Int), T.any q = true ↔ 0 < ((idxT q j T).length : Int)
  | [], j => by simp [idxT]
  | r :: T, j => by
    simp only [List.any_cons, idxT, Bool.or_eq_true]
    split
    · rename_i h; simp only [h, true_or, List.length_cons, true_iff]; omega
    · rename_i h; simp only [h, Bool.false_eq_true, false_or]; exact any_idx q T (j + 1)
theorem any_all (h : anyB T ((T.length : Int) - 1) o p t = true) : 0 < ((idxT (sameR o p t) 0 T).length : Int) := by
  unfold anyB at h; rw [List.take_of_length_le (by omega)] at h; exact (any_idx _ T 0).1 h
theorem any_none (h : anyB T ((T.length : Int) - 1) o p t = false) : ¬ 0 < ((idxT (sameR o p t) 0 T).length : Int) := by
  unfold anyB at h; rw [List.take_of_length_le (by omega)] at h
  intro h2; rw [(any_idx _ T 0).2 h2] at h; cases h
theorem plc_full (h : plcI T ((T.length : Int) - 1) (-1) < 0) : ((idxT freeB 0 T).length : Int) = 0 := by
  unfold plcI at h; rw [List.take_of_length_le (by omega)] at h
  cases e : idxT freeB 0 T with
  | nil => rfl
  | cons r L =>
    have := (idx_head (p := freeB) (T := T) (by rw [e, List.length_cons]; omega)).1
    rw [e] at this h
    simp only [List.getD_cons_zero] at this
    exact absurd h (by simp only; omega)
theorem plc_ok (h : ¬ plcI T ((T.length : Int) - 1) (-1) < 0) : ¬ ((idxT freeB 0 T).length : Int) = 0 ∧ plcI T ((T.length : Int) - 1) (-1) = ((idxT freeB 0 T).getD 0 []).getD 0 0 := by
  unfold plcI at *; rw [List.take_of_length_le (by omega)] at *
  cases e : idxT freeB 0 T with
  | nil => rw [e] at h; exact absurd (show (-1 : Int) < 0 by decide) h
  | cons r L => exact ⟨by rw [List.length_cons]; omega, rfl⟩
/-! ### Drop, from row i on -/
theorem clrF_len (T : Tab) (g i : Int) : (clrF T g i).length = T.length := by
  unfold clrF; rw [List.length_append, clrG_len, ← List.length_append, List.take_append_drop]
theorem clrF_0 : clrF T g 0 = clrG g T := rfl
theorem clrF_end (h : ¬ i < T.length) : clrF T g i = T := by
  unfold clrF; rw [List.take_of_length_le (by omega), List.drop_of_length_le (by omega)]; simp [clrG]
theorem clrF_no (h0 : 0 ≤ i) (h1 : i < T.length) (h : ofG g (T.getD i.toNat []) = false) : clrF T g i = clrF T g (i + 1) := by
  unfold clrF
  rw [take_next h0 h1, drop_step h0 h1, clrG, List.map_cons, if_neg (by rw [h]; exact Bool.false_ne_true), List.append_assoc]; rfl
theorem take_mod (f : List Int → List Int) (T : Tab) (n : Nat) : (T.modify n f).take n = T.take n := by
  apply List.ext_getElem
  · simp
  · intro j h1 h2
    simp only [List.length_take] at h1 h2
    simp only [List.getElem_take, List.getElem_modify]
    rw [if_neg (by omega)]
theorem drop_mod (f : List Int → List Int) (T : Tab) (n : Nat) : (T.modify n f).drop (n + 1) = T.drop (n + 1) := by
  apply List.ext_getElem
  · simp
  · intro j h1 h2
    simp only [List.getElem_drop, List.getElem_modify]
    rw [if_neg (by omega)]
theorem clrF_yes (h0 : 0 ≤ i) (h1 : i < T.length) (h : ofG g (T.getD i.toNat []) = true) : clrF T g i = clrF (T.modify i.toNat fun _ => Z5) g (i + 1) := by
  have hl : (T.modify i.toNat fun _ => Z5).length = T.length := List.length_modify ..
  unfold clrF
  rw [take_next (T := T.modify i.toNat fun _ => Z5) h0 (by omega), mod_at h0 h1, drop_step h0 h1, clrG, List.map_cons, if_pos h, show (i + 1).toNat = i.toNat + 1 by omega, drop_mod, take_mod, List.append_assoc]; rfl
theorem og_yes (h0 : 0 ≤ i) (h1 : i < T.length) (h : ofG g (T.getD i.toNat []) = true) :
    ((idxT (ofG g) i (T.drop i.toNat)).length : Int) = (idxT (ofG g) (i + 1) ((T.modify i.toNat fun _ => Z5).drop (i + 1).toNat)).length + 1 := by
  rw [idx_yes h0 h1 h, List.length_cons, show (i + 1).toNat = i.toNat + 1 by omega, drop_mod]; omega
/-! ### the rounds -/
theorem stepB_dead {r : List Int} (h : ¬ 0 < r.getD 0 0) : stepB S r = S := by
  unfold stepB; rw [decide_eq_false h, Bool.false_and, if_neg Bool.false_ne_true]
theorem stepB_no {r : List Int} (h1 : (S.getD (r.getD 0 0).toNat []).getD 0 0 = 0) (h2 : (S.getD (r.getD 2 0).toNat []).getD 0 0 = 0) : stepB S r = S := by
  unfold stepB; rw [seen_0 h1, seen_0 h2, Bool.or_self, Bool.and_false, if_neg Bool.false_ne_true]
theorem stepB_yes {r : List Int} (h : 0 < r.getD 0 0) (h1 : seenB S (r.getD 0 0) = true ∨ seenB S (r.getD 2 0) = true) : stepB S r = seeT (seeT S (r.getD 0 0)) (r.getD 2 0) := by
  unfold stepB; rw [decide_eq_true h, Bool.true_and, if_pos (by simpa using h1)]
theorem rounds_next (h0 : 0 ≤ k) (h1 : k < 16) : rounds G (16 - k).toNat S = rounds G (16 - (k + 1)).toNat (G.foldl stepB S) := by
  rw [show (16 - k).toNat = (16 - (k + 1)).toNat + 1 by omega, rounds]
theorem rounds_end (h0 : k ≤ 16) (h1 : ¬ k < 16) : rounds G (16 - k).toNat S = S := by
  rw [show (16 - k).toNat = 0 by omega, rounds]
theorem bits_fold : ∀ (G : Tab) {S : Tab}, bits S → bits (G.foldl stepB S)
  | [], S, h => h
  | r :: G, S, h => by
    rw [List.foldl_cons]
    refine bits_fold G ?_
    unfold stepB
    split
    · exact bits_see (bits_see h _) _
    · exact h
theorem bits_rounds (G : Tab) : ∀ (k : Nat) {S : Tab}, bits S → bits (rounds G k S)
  | 0, S, h => h
  | k + 1, S, h => by rw [rounds]; exact bits_rounds G k (bits_fold G h)
theorem link_rounds (hG : okGB G = true) (h0 : 1 ≤ a ∧ a ≤ 16) (h1 : 1 ≤ b ∧ b ≤ 16) (hl : ((rounds G 16 (seeT noneS a)).length : Int) = 17) :
    linkB G a b = !decide (((rounds G 16 (seeT noneS a)).getD b.toNat []).getD 0 0 = 0) := by
  unfold linkB
  rw [show guestB a = true by simp [guestB, h0.1, h0.2], show guestB b = true by simp [guestB, h1.1, h1.2], Bool.and_self, Bool.true_and,
    linked_same (okGB_ok hG).1 (okGB_ok hG).2 ⟨by omega, by omega⟩ ⟨by omega, by omega⟩]
  exact seen_not hl (bits_rounds G 16 (bits_see bits_none a)) (by omega) (by omega)
theorem uses_clr (h : usesB T = true) (g : Int) : usesB (clrG g T) = true := by
  refine uses_of fun r hr => ?_
  obtain ⟨s, hs, rfl⟩ := List.mem_map.1 hr
  split
  · decide
  · exact uses_at h hs
end Go.SF.C19
