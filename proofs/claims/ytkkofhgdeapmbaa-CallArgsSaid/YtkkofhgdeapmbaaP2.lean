/- The plain law of chapter 22: digits, parts, and how a text is read. -/
import Derived.Test.YtkkofhgdeapmbaaP
namespace Go.SF.C22
open Go.SF
set_option linter.unusedVariables false

/-! ### codes -/
theorem enc_nn (l : T8) : (0 : Int) ≤ (encL l : Nat) := Int.natCast_nonneg _
theorem len_enc (l : T8) : lenS (encL l : Nat) = l.length := by simp [lenS, strB_enc]
theorem enc_inj {a b : T8} (h : ((encL a : Nat) : Int) = (encL b : Nat)) : a = b := by
  have := congrArg strB h
  rwa [strB_enc, strB_enc] at this
theorem enc_nil : ((encL [] : Nat) : Int) = 0 := rfl
/-! ### digits -/
def isDig (b : UInt8) : Bool := decide (48 ≤ b.toNat) && decide (b.toNat ≤ 57)
theorem dig_toNat {n : Nat} (h : n < 10) : (UInt8.ofNat (48 + n)).toNat = 48 + n := by
  rw [UInt8.toNat_ofNat']; omega
theorem dig_is {n : Nat} (h : n < 10) : isDig (UInt8.ofNat (48 + n)) = true := by
  simp only [isDig, dig_toNat h, Bool.and_eq_true, decide_eq_true_eq]; omega
theorem decG_len : ∀ (f n : Nat), (decG f n).length ≤ f
  | 0, n => by simp [decG]
  | f + 1, n => by
    simp only [decG]
    split
    · simp
    · have := decG_len f (n / 10); simp; omega
theorem decG_more : ∀ (f n : Nat), 1 ≤ f → n < 10 ^ f → decG (f + 1) n = decG f n
  | f + 1, n, _, h => by
    by_cases h0 : n < 10
    · simp [decG, h0]
    · have h1 : 1 ≤ f := by
        rcases Nat.eq_zero_or_pos f with e | e
        · subst e; simp at h; omega
        · exact e
      have h2 : n / 10 < 10 ^ f := by
        rw [Nat.pow_succ] at h
        exact Nat.div_lt_of_lt_mul (by omega)
      rw [decG, if_neg h0, decG_more f (n / 10) h1 h2]
      conv => rhs; rw [decG, if_neg h0]
theorem decG_dig : ∀ (f n : Nat), digB (decG f n) = true
  | 0, n => rfl
  | f + 1, n => by
    simp only [decG]
    split
    · rename_i h
      simp only [digB, List.all_cons, List.all_nil, Bool.and_true]
      exact dig_is h
    · have := decG_dig f (n / 10)
      simp only [digB, List.all_append, List.all_cons, List.all_nil, Bool.and_true] at this ⊢
      rw [this, Bool.true_and]
      exact dig_is (Nat.mod_lt _ (by decide))
theorem decG_ne : ∀ (f n : Nat), 1 ≤ f → decG f n ≠ []
  | f + 1, n, _ => by
    simp only [decG]
    split <;> simp
theorem num_app (l : T8) (b : UInt8) : numL (l ++ [b]) = (10 * numL l + ((b.toNat : Int) - 48)) % 18446744073709551616 := by simp [numL]
theorem decG_num : ∀ (f n : Nat), 1 ≤ f → n < 10 ^ f → n < 18446744073709551616 → numL (decG f n) = n
  | f + 1, n, _, h, h64 => by
    by_cases h0 : n < 10
    · simp only [decG, if_pos h0]
      have := num_app [] (UInt8.ofNat (48 + n))
      simp only [List.nil_append] at this
      rw [this, dig_toNat h0]
      simp only [numL, List.foldl_nil]
      omega
    · have h1 : 1 ≤ f := by
        rcases Nat.eq_zero_or_pos f with e | e
        · subst e; simp at h; omega
        · exact e
      have h2 : n / 10 < 10 ^ f := by
        rw [Nat.pow_succ] at h
        exact Nat.div_lt_of_lt_mul (by omega)
      rw [decG, if_neg h0, num_app, decG_num f (n / 10) h1 h2 (by omega), dig_toNat (Nat.mod_lt _ (by decide))]
      omega
theorem dec_len (w : Int) : (decL w).length ≤ 20 := decG_len 20 _
theorem dec_dig (w : Int) : digB (decL w) = true := decG_dig 20 _
theorem dec_ne (w : Int) : decL w ≠ [] := decG_ne 20 _ (by decide)
theorem dec_num {w : Int} (h0 : 0 ≤ w) (h1 : w ≤ 18446744073709551615) : numL (decL w) = w := by
  have := decG_num 20 w.toNat (by decide) (by omega) (by omega)
  show numL (decG 20 w.toNat) = w
  rw [this]; omega
theorem dec_small {w : Int} (h0 : 0 ≤ w) (h1 : w < 10) : decL w = [UInt8.ofNat (48 + w.toNat)] := by
  show decG 20 w.toNat = _
  rw [decG, if_pos (by omega)]
theorem dec_big {w : Int} (h0 : 10 ≤ w) (h1 : w ≤ 18446744073709551615) : decL w = decL (w / 10) ++ decL (w % 10) := by
  show decG 20 w.toNat = _
  rw [decG, if_neg (by omega), dec_small (w := w % 10) (by omega) (by omega)]
  show _ = decG 20 (w / 10).toNat ++ _
  rw [decG_more 19 (w / 10).toNat (by decide) (by omega)]
  have e1 : w.toNat / 10 = (w / 10).toNat := by omega
  have e2 : w.toNat % 10 = (w % 10).toNat := by omega
  rw [e1, e2]
theorem num_range (s : T8) : 0 ≤ numL s ∧ numL s ≤ 18446744073709551615 := by
  rcases List.eq_nil_or_concat s with e | ⟨l, b, e⟩
  · subst e; simp [numL]
  · rw [e, List.concat_eq_append, num_app]; omega
theorem ok_dec {w : Int} (h0 : 0 ≤ w) (h1 : w ≤ 18446744073709551615) : okN (decL w) = true := by
  simp only [okN, dec_dig, dec_num h0 h1, decide_true, Bool.and_self]
theorem ok_is {s : T8} (h : okN s = true) : s = decL (numL s) := by
  simp only [okN, Bool.and_eq_true, decide_eq_true_eq] at h
  exact h.2.symm
theorem dig_no {s : T8} (h : digB s = true) : (32 : UInt8) ∉ s := by
  intro hm
  have := List.all_eq_true.1 h _ hm
  simp at this
theorem dec_no (w : Int) : (32 : UInt8) ∉ decL w := dig_no (dec_dig w)
/-! ### parts -/
theorem cut_split (s : T8) : s = cutA s ++ (if cutC s then 32 :: cutB s else []) := by
  induction s with
  | nil => rfl
  | cons b s ih =>
    by_cases h : b = 32
    · subst h; simp [cutA, cutB, cutC]
    · simp only [cutA, cutB, cutC, List.takeWhile_cons, List.dropWhile_cons, bne_iff_ne, ne_eq, h, not_false_eq_true, if_true, List.contains_cons, List.cons_append] at ih ⊢
      have h2 : ((32 : UInt8) == b) = false := by simp; exact fun e => h e.symm
      rw [h2, Bool.false_or]
      exact congrArg (b :: ·) ih
theorem cutA_no (s : T8) : (32 : UInt8) ∉ cutA s := by
  induction s with
  | nil => simp [cutA]
  | cons b s ih =>
    by_cases h : b = 32
    · subst h; simp [cutA]
    · simp only [cutA, List.takeWhile_cons, bne_iff_ne, ne_eq, h, not_false_eq_true, if_true, List.mem_cons, not_or] at ih ⊢
      exact ⟨fun e => h e.symm, ih⟩
/-- Where a text without a blank ends. -/
theorem join_inj : ∀ {a b t u : T8}, (32 : UInt8) ∉ a → (32 : UInt8) ∉ b → (t = [] ∨ ∃ t', t = 32 :: t') → (u = [] ∨ ∃ u', u = 32 :: u') → a ++ t = b ++ u → a = b ∧ t = u
  | [], [], _, _, _, _, _, _, h => ⟨rfl, h⟩
  | [], y :: b, t, u, _, hb, ht, _, h => by
    rcases ht with rfl | ⟨t', rfl⟩
    · simp at h
    · simp only [List.nil_append, List.cons_append, List.cons.injEq] at h
      exact absurd (h.1 ▸ List.mem_cons_self .. : (32 : UInt8) ∈ y :: b) hb
  | x :: a, [], t, u, ha, _, _, hu, h => by
    rcases hu with rfl | ⟨u', rfl⟩
    · simp at h
    · simp only [List.nil_append, List.cons_append, List.cons.injEq] at h
      exact absurd (h.1 ▸ List.mem_cons_self .. : (32 : UInt8) ∈ x :: a) ha
  | x :: a, y :: b, t, u, ha, hb, ht, hu, h => by
    simp only [List.cons_append, List.cons.injEq] at h
    obtain ⟨e1, e2⟩ := join_inj (fun e => ha (List.mem_cons_of_mem _ e)) (fun e => hb (List.mem_cons_of_mem _ e)) ht hu h.2
    exact ⟨by rw [h.1, e1], e2⟩
theorem tail_or (s : T8) : (if cutC s then 32 :: cutB s else [] : T8) = [] ∨ ∃ t', (if cutC s then 32 :: cutB s else [] : T8) = 32 :: t' := by
  cases cutC s
  · exact .inl rfl
  · exact .inr ⟨_, rfl⟩
theorem cut_join {w t : T8} (hw : (32 : UInt8) ∉ w) (ht : t = [] ∨ ∃ t', t = 32 :: t') : cutA (w ++ t) = w ∧ (if cutC (w ++ t) then 32 :: cutB (w ++ t) else [] : T8) = t := by
  have h := cut_split (w ++ t)
  obtain ⟨h1, h2⟩ := join_inj hw (cutA_no _) ht (tail_or _) h
  exact ⟨h1.symm, h2.symm⟩
def joinP (l : List Int) : T8 := l.flatMap partL
theorem joinP_or (l : List Int) : joinP l = [] ∨ ∃ t', joinP l = 32 :: t' := by
  cases l with
  | nil => exact .inl rfl
  | cons v l => exact .inr ⟨decL v ++ joinP l, rfl⟩
theorem joinP_cons (v : Int) (l : List Int) : joinP (v :: l) = 32 :: (decL v ++ joinP l) := rfl
def u64L (l : List Int) : Prop := ∀ v ∈ l, 0 ≤ v ∧ v ≤ 18446744073709551615
theorem goP_join : ∀ (l : List Int) (rest : T8) (more : Bool) (vs : List Int), u64L l → (if more then 32 :: rest else [] : T8) = joinP l → goP l.length rest more vs = some (vs ++ l)
  | [], rest, more, vs, _, h => by
    cases more
    · simp [goP]
    · cases h
  | v :: l, rest, more, vs, hu, h => by
    cases more with
    | false => cases h
    | true =>
      rw [if_pos rfl, joinP_cons] at h
      obtain ⟨_, rfl⟩ := List.cons.inj h
      obtain ⟨e1, e2⟩ := cut_join (dec_no v) (joinP_or l)
      obtain ⟨h0, h1⟩ := hu v (List.mem_cons_self ..)
      simp only [List.length_cons, goP, if_true, e1, ok_dec h0 h1, dec_num h0 h1]
      rw [goP_join l _ _ _ (fun x hx => hu x (List.mem_cons_of_mem _ hx)) e2]
      simp
theorem goP_some : ∀ (m : Nat) (rest : T8) (more : Bool) (vs r : List Int), goP m rest more vs = some r → ∃ l, r = vs ++ l ∧ l.length = m ∧ (if more then 32 :: rest else [] : T8) = joinP l ∧ u64L l
  | 0, rest, more, vs, r, h => by
    cases more with
    | true => simp [goP] at h
    | false =>
      simp [goP] at h
      exact ⟨[], by simp [h], rfl, rfl, fun v hv => by cases hv⟩
  | m + 1, rest, more, vs, r, h => by
    cases more with
    | false => simp [goP] at h
    | true =>
      simp only [goP, if_true] at h
      split at h
      · rename_i hok
        obtain ⟨l, h1, h2, h3, h4⟩ := goP_some m _ _ _ _ h
        refine ⟨numL (cutA rest) :: l, by rw [h1]; simp, by simp [h2], ?_, ?_⟩
        · rw [if_pos rfl, joinP_cons, ← ok_is hok, ← h3]
          exact congrArg (32 :: ·) (cut_split rest)
        · intro v hv
          rcases List.mem_cons.1 hv with rfl | hv
          · exact num_range _
          · exact h4 v hv
      · cases h
end Go.SF.C22
