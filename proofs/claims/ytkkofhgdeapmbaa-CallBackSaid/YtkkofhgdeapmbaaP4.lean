/- The plain law of chapter 22: the document's words, and how it reads a text. -/
import Derived.Test.YtkkofhgdeapmbaaP3
namespace Go.SF.C22
open Go.SF
set_option linter.unusedVariables false

/-- Words, each with a blank behind it. -/
def joinW (W : List T8) : T8 := W.flatMap (· ++ [32])
theorem joinW_inj : ∀ {W V : List T8}, (∀ w ∈ W, (32 : UInt8) ∉ w) → (∀ v ∈ V, (32 : UInt8) ∉ v) → joinW W = joinW V → W = V
  | [], [], _, _, _ => rfl
  | [], v :: V, _, _, h => by
    have := congrArg List.length h
    simp [joinW] at this
  | w :: W, [], _, _, h => by
    have := congrArg List.length h
    simp [joinW] at this
  | w :: W, v :: V, hW, hV, h => by
    have h' : w ++ (32 :: joinW W) = v ++ (32 :: joinW V) := by simpa [joinW] using h
    obtain ⟨e1, e2⟩ := join_inj (hW w (List.mem_cons_self ..)) (hV v (List.mem_cons_self ..)) (.inr ⟨_, rfl⟩) (.inr ⟨_, rfl⟩) h'
    rw [e1, joinW_inj (fun x hx => hW x (List.mem_cons_of_mem _ hx)) (fun x hx => hV x (List.mem_cons_of_mem _ hx)) (List.cons.inj e2).2]
theorem wordsA_inv (s : T8) : ∀ n : Nat, n ≤ s.length → (wordsA s n).2 ≤ n ∧ joinW (wordsA s n).1 = s.take (wordsA s n).2 ∧ (32 : UInt8) ∉ (s.take n).drop (wordsA s n).2 ∧ (∀ w ∈ (wordsA s n).1, (32 : UInt8) ∉ w) ∧ (wordsA s n).1.length ≤ n
  | 0, _ => by simp [wordsA, joinW]
  | n + 1, h => by
    obtain ⟨h1, h2, h3, h4, h5⟩ := wordsA_inv s n (by omega)
    have hn : n < s.length := by omega
    simp only [wordsA]
    by_cases hb : s[n]? = some 32
    · rw [if_pos (.inr hb)]
      refine ⟨Nat.le_refl _, ?_, ?_, ?_, by simp; omega⟩
      · have e : joinW ((wordsA s n).1 ++ [(s.take n).drop (wordsA s n).2]) = joinW (wordsA s n).1 ++ ((s.take n).drop (wordsA s n).2 ++ [32]) := by simp [joinW]
        rw [e, h2, ← List.append_assoc]
        have e2 : s.take (wordsA s n).2 = (s.take n).take (wordsA s n).2 := by rw [List.take_take, Nat.min_eq_left h1]
        rw [e2, List.take_append_drop, List.take_add_one, hb]
        rfl
      · rw [List.drop_eq_nil_of_le (by simp; omega)]; simp
      · intro w hw
        rcases List.mem_append.1 hw with hw | hw
        · exact h4 w hw
        · rw [List.mem_singleton.1 hw]; exact h3
    · rw [if_neg (by simp [hb]; omega)]
      refine ⟨by omega, h2, ?_, h4, by omega⟩
      rw [List.take_add_one, List.drop_append_of_le_length (by simp; omega), List.mem_append]
      rintro (hm | hm)
      · exact h3 hm
      · rw [List.getElem?_eq_getElem hn] at hm hb
        simp at hm hb
        exact hb hm.symm
theorem words_join (s : T8) : joinW (wordsL s) = s ++ [32] ∧ (∀ w ∈ wordsL s, (32 : UInt8) ∉ w) ∧ 1 ≤ (wordsL s).length ∧ (wordsL s).length ≤ s.length + 1 := by
  obtain ⟨h1, h2, h3, h4, h5⟩ := wordsA_inv s s.length (Nat.le_refl _)
  unfold wordsL
  simp only [wordsA]
  rw [if_pos (.inl (Nat.le_refl _))]
  rw [List.take_length] at h3 ⊢
  refine ⟨?_, ?_, by simp, by simp; omega⟩
  · have e : joinW ((wordsA s s.length).1 ++ [s.drop (wordsA s s.length).2]) = joinW (wordsA s s.length).1 ++ (s.drop (wordsA s s.length).2 ++ [32]) := by simp [joinW]
    rw [e, h2, ← List.append_assoc, List.take_append_drop]
  · intro w hw
    rcases List.mem_append.1 hw with hw | hw
    · exact h4 w hw
    · rw [List.mem_singleton.1 hw]; exact h3
/-- The words of a name and numbers. -/
theorem words_of {k : Int} {l : List Int} (h1 : 1 ≤ k) (h2 : k ≤ 17) : wordsL (nameL k ++ joinP l) = nameL k :: l.map decL := by
  obtain ⟨e1, e2, _⟩ := words_join (nameL k ++ joinP l)
  refine joinW_inj e2 ?_ ?_
  · intro v hv
    rcases List.mem_cons.1 hv with rfl | hv
    · exact name_no h1 h2
    · obtain ⟨x, _, rfl⟩ := List.mem_map.1 hv; exact dec_no x
  · rw [e1]
    have : ∀ l : List Int, 32 :: joinW (l.map decL) = joinP l ++ [32] := by
      intro l
      induction l with
      | nil => rfl
      | cons v l ih =>
        rw [joinP_cons]
        have e : joinW (decL v :: l.map decL) = decL v ++ (32 :: joinW (l.map decL)) := by simp [joinW]
        rw [List.map_cons, e, ih]
        simp
    have e : joinW (nameL k :: l.map decL) = nameL k ++ (32 :: joinW (l.map decL)) := by simp [joinW]
    rw [e, this l]
    simp
/-- The first word is the part up to the first blank. -/
theorem words_head (s : T8) : (wordsL s).getD 0 [] = cutA s := by
  obtain ⟨e1, e2, e3, _⟩ := words_join s
  cases h : wordsL s with
  | nil => rw [h] at e3; simp at e3
  | cons w W =>
    rw [h] at e1 e2
    have e4 : w ++ (32 :: joinW W) = cutA s ++ ((if cutC s then 32 :: cutB s else []) ++ [32]) := by
      rw [← List.append_assoc, ← cut_split]
      rw [← e1]; simp [joinW]
    exact (join_inj (e2 w (List.mem_cons_self ..)) (cutA_no s) (.inr ⟨_, rfl⟩) (by cases cutC s <;> exact .inr ⟨_, rfl⟩) e4).1
/-! ### numbers -/
theorem numR_app (l : T8) (b : UInt8) : numR (l ++ [b]) = stepR (numR l) b := by simp [numR]
theorem numR_range (s : T8) : 0 ≤ numR s ∧ numR s ≤ 18446744073709551615 := by
  rcases List.eq_nil_or_concat s with e | ⟨l, b, e⟩
  · subst e; simp [numR]
  · rw [e, List.concat_eq_append, numR_app]; unfold stepR; omega
theorem numR_dig {s : T8} (h : digB s = true) : numR s = numL s := by
  unfold numR numL
  suffices ∀ (s : T8) (n : Int), digB s = true → s.foldl stepR n = s.foldl (fun n b => (10 * n + ((b.toNat : Int) - 48)) % 18446744073709551616) n from this s 0 h
  intro s
  induction s with
  | nil => intro n _; rfl
  | cons b s ih =>
    intro n h
    simp only [digB, List.all_cons, Bool.and_eq_true, decide_eq_true_eq] at h ih
    simp only [List.foldl_cons]
    have e : stepR n b = (10 * n + ((b.toNat : Int) - 48)) % 18446744073709551616 := by
      unfold stepR
      have : ((b.toNat : Int) - 48) % 256 = (b.toNat : Int) - 48 := by omega
      rw [this]
    rw [e]
    exact ih _ h.2
theorem numR_dec {w : Int} (h0 : 0 ≤ w) (h1 : w ≤ 18446744073709551615) : numR (decL w) = w := by rw [numR_dig (dec_dig w), dec_num h0 h1]
/-! ### kinds -/
theorem kindA_step {t : T8} {n : Nat} (h : 1 ≤ n) : kindA t (n + 1) = if nameL (n : Int) = t then (n : Int) else kindA t n := by
  simp only [kindA]
  by_cases e : nameL (n : Int) = t
  · rw [if_pos ⟨h, e⟩, if_pos e]
  · rw [if_neg (fun x => e x.2), if_neg e]
theorem kindA_le (t : T8) : ∀ n : Nat, 0 ≤ kindA t n ∧ (kindA t n = 0 ∨ (1 ≤ kindA t n ∧ kindA t n < n ∧ nameL (kindA t n) = t))
  | 0 => by simp [kindA]
  | n + 1 => by
    obtain ⟨h1, h2⟩ := kindA_le t n
    simp only [kindA]
    split
    · rename_i h; exact ⟨by omega, .inr ⟨by omega, by omega, h.2⟩⟩
    · refine ⟨h1, ?_⟩
      rcases h2 with h2 | ⟨h3, h4, h5⟩
      · exact .inl h2
      · exact .inr ⟨h3, by omega, h5⟩
theorem kindA_name {k : Int} (h1 : 1 ≤ k) (h2 : k ≤ 17) : kindA (nameL k) 18 = k := by
  rcases kinds17 h1 h2 with h | h | h | h | h | h | h | h | h | h | h | h | h | h | h | h | h <;> subst h <;> decide
theorem kind_is (t : T8) : kindA t 18 = if namedL t = -1 then 0 else namedL t := by
  split
  · rename_i h
    rcases (kindA_le t 18).2 with e | ⟨h1, h2, h3⟩
    · exact e
    · exact absurd h3 (named_no h h1 (by omega))
  · rename_i h
    obtain ⟨h1, h2, h3⟩ := named_is h
    conv => lhs; rw [← h3]
    exact kindA_name h1 h2
/-- T3: the document reads a text so. -/
theorem ref_none {s : T8} (h : kindA (cutA s) 18 = 0) : parseL s = [4, 0, 0, 0, 0] := by
  rw [kind_is] at h
  split at h
  · rename_i h'; unfold parseL; rw [if_pos h']
  · rename_i h'; have := named_is h'; omega
theorem showL_right {k a b c : Int} {s : T8} (h : showL k a b c = s) (hs : s ≠ []) : rightB k a b c = true := by
  unfold showL at h
  split at h
  · assumption
  · exact absurd h.symm hs
theorem ref_yes {s : T8} {k a b c : Int} (hk : kindA (cutA s) 18 ≠ 0) (h : showL k a b c = s) (ha : 0 ≤ a ∧ a ≤ 18446744073709551615) (hb : 0 ≤ b ∧ b ≤ 18446744073709551615) (hc : 0 ≤ c ∧ c ≤ 18446744073709551615) : parseL s = [0, k, a, b, c] := by
  have hs : s ≠ [] := by
    intro e
    subst e
    exact hk (by decide)
  have hr := showL_right h hs
  rw [← h]
  exact parse_show hr ha hb hc
/-- The number of a word, where it is one. -/
def numW (s : T8) (i : Nat) : Int := if i < (wordsL s).length then numR ((wordsL s).getD i []) else 0
theorem numW_range (s : T8) (i : Nat) : 0 ≤ numW s i ∧ numW s i ≤ 18446744073709551615 := by
  unfold numW
  split
  · exact numR_range _
  · decide
theorem ref_no {s : T8} (hk : kindA (cutA s) 18 ≠ 0) (h : showL (kindA (cutA s) 18) (numW s 1) (numW s 2) (numW s 3) ≠ s) : parseL s = [11, 0, 0, 0, 0] := by
  rcases parse_cases s with ⟨e, _⟩ | ⟨_, e⟩ | ⟨k, l, hn, h1, h2, hs, hl, hu, e⟩
  · rw [kind_is, if_pos e] at hk; exact absurd rfl hk
  · exact e
  · exfalso
    apply h
    have e1 : kindA (cutA s) 18 = k := by rw [kind_is, hn, if_neg (by omega)]
    have hw := words_of (l := l) h1 h2
    rw [← hs] at hw
    have e2 : ∀ i, numW s (i + 1) = l.getD i 0 := by
      intro i
      unfold numW
      rw [hw]
      simp only [List.length_cons, List.length_map, Nat.add_lt_add_iff_right, List.getD_cons_succ]
      split
      · rename_i hi
        have hm : l[i]? = some l[i] := List.getElem?_eq_getElem hi
        rw [List.getD_eq_getElem?_getD, List.getElem?_map, hm, List.getD_eq_getElem?_getD, hm]
        have := hu l[i] (List.getElem_mem hi)
        exact numR_dec this.1 this.2
      · rename_i hi
        rw [List.getD_eq_getElem?_getD, List.getElem?_eq_none (by omega)]
        rfl
    obtain ⟨r1, r2⟩ := right_args h1 h2 hl
    rw [e1, e2 0, e2 1, e2 2, show_eq r1, r2]
    exact hs.symm
end Go.SF.C22
