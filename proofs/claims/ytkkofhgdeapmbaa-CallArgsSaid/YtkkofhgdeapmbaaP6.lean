/- The plain law of chapter 22, said of codes: parts, names, numbers. -/
import Derived.Test.YtkkofhgdeapmbaaP5
namespace Go.SF.C22
open Go Go.SF
set_option linter.unusedVariables false

/-! ### bytes -/
theorem at_get {s i : Int} (h0 : 0 ≤ i) (h1 : i < lenS s) : ∃ b, (strB s)[i.toNat]? = some b ∧ atS s i = b.toNat := by
  unfold lenS at h1
  have hl : i.toNat < (strB s).length := by omega
  refine ⟨(strB s)[i.toNat], List.getElem?_eq_getElem hl, ?_⟩
  unfold atS
  rw [List.getD_eq_getElem?_getD, List.getElem?_eq_getElem hl]
  rfl
theorem take_one {s i : Int} {b : UInt8} (h0 : 0 ≤ i) (h : (strB s)[i.toNat]? = some b) : (strB s).take (i + 1).toNat = (strB s).take i.toNat ++ [b] := by
  rw [show (i + 1).toNat = i.toNat + 1 by omega, List.take_add_one, h]; rfl
theorem take_all {s i : Int} (h : i = lenS s) : (strB s).take i.toNat = strB s := by
  unfold lenS at h
  rw [List.take_of_length_le (by omega)]
theorem nat_u8 {b : UInt8} (h : (b.toNat : Int) = 32) : b = 32 := by
  apply UInt8.toNat_inj.1
  rw [show (32 : UInt8).toNat = 32 from rfl]; omega
/-! ### cut -/
theorem noBl_not {s i : Int} (h : noBl (strB s) i = true) : (32 : UInt8) ∉ (strB s).take i.toNat := by
  intro hm
  have := List.all_eq_true.1 h _ hm
  simp at this
theorem cut_hit {s i : Int} (h0 : 0 ≤ i) (h1 : i < lenS s) (hb : atS s i = 32) (h : noBl (strB s) i = true) : cutC (strB s) = true ∧ (encL (cutA (strB s)) : Int) = subS s 0 i ∧ (encL (cutB (strB s)) : Int) = subS s (i + 1) (lenS s) := by
  obtain ⟨b, hg, hat⟩ := at_get h0 h1
  have hb := nat_u8 (hat.symm.trans hb)
  subst hb
  have hn := noBl_not h
  have hs : strB s = (strB s).take i.toNat ++ (32 :: (strB s).drop (i.toNat + 1)) := by
    have hl : i.toNat < (strB s).length := by unfold lenS at h1; omega
    have h2 : (strB s)[i.toNat] = 32 := by
      rw [List.getElem?_eq_getElem hl] at hg; exact Option.some.inj hg
    rw [← h2, List.getElem_cons_drop]
    exact (List.take_append_drop ..).symm
  obtain ⟨e1, e2⟩ := cut_join (t := 32 :: (strB s).drop (i.toNat + 1)) hn (.inr ⟨_, rfl⟩)
  rw [← hs] at e1 e2
  cases hc : cutC (strB s) with
  | false => rw [hc] at e2; cases e2
  | true =>
    rw [hc, if_pos rfl] at e2
    refine ⟨rfl, ?_, ?_⟩
    · rw [e1]; unfold subS; simp
    · rw [(List.cons.inj e2).2]; unfold subS
      rw [take_all rfl, show (i + 1).toNat = i.toNat + 1 by omega]
theorem noBl_step {s i : Int} (h0 : 0 ≤ i) (h1 : i < lenS s) (hb : ¬ atS s i = 32) (h : noBl (strB s) i = true) : noBl (strB s) (i + 1) = true := by
  obtain ⟨b, hg, hat⟩ := at_get h0 h1
  unfold noBl at h ⊢
  rw [take_one h0 hg, List.all_append, h]
  simp only [List.all_cons, List.all_nil, Bool.and_true, Bool.true_and, bne_iff_ne, ne_eq]
  intro e
  subst e
  exact hb hat
theorem noBl_end {s i : Int} (h1 : i = lenS s) (h : noBl (strB s) i = true) : cutC (strB s) = false := by
  have := noBl_not h
  rw [take_all h1] at this
  unfold cutC
  simpa using this
theorem noBl_0 (s : Int) : noBl (strB s) 0 = true := by simp [noBl]
theorem cutA_le (s : T8) : (cutA s).length ≤ s.length := by
  have := congrArg List.length (cut_split s)
  rw [List.length_append] at this; omega
theorem cutB_le (s : T8) : (cutB s).length ≤ s.length := by
  unfold cutB
  have : (s.dropWhile (· != 32)).length ≤ s.length := (List.dropWhile_sublist _).length_le
  rw [List.length_tail]; omega
theorem cut_le (s : Int) : 0 ≤ (encL (cutA (strB s)) : Int) ∧ lenS (encL (cutA (strB s)) : Nat) ≤ lenS s ∧ 0 ≤ (encL (cutB (strB s)) : Int) ∧ lenS (encL (cutB (strB s)) : Nat) ≤ lenS s := by
  rw [len_enc, len_enc]
  have h1 := cutA_le (strB s); have h2 := cutB_le (strB s)
  unfold lenS
  exact ⟨enc_nn _, by omega, enc_nn _, by omega⟩
theorem cut_none {s : Int} (hs : 0 ≤ s) (h : cutC (strB s) = false) : (encL (cutA (strB s)) : Int) = s ∧ (encL (cutB (strB s)) : Int) = 0 := by
  have e := cut_split (strB s)
  rw [h] at e
  simp only [Bool.false_eq_true, if_false, List.append_nil] at e
  refine ⟨by rw [← e]; exact enc_strB hs, ?_⟩
  have hn := cutA_no (strB s)
  rw [← e] at hn
  have : cutB (strB s) = [] := by
    unfold cutB
    have key : ∀ l : T8, (32 : UInt8) ∉ l → l.dropWhile (· != 32) = [] := by
      intro l
      induction l with
      | nil => intro _; rfl
      | cons b l ih =>
        intro hl
        have hb : (b != 32) = true := by
          simp only [bne_iff_ne, ne_eq]
          intro e; subst e; exact hl (List.mem_cons_self ..)
        rw [List.dropWhile_cons, if_pos hb]
        exact ih (fun x => hl (List.mem_cons_of_mem _ x))
    have : (strB s).dropWhile (· != 32) = [] := key _ hn
    rw [this]; rfl
  rw [this]; rfl
/-! ### named -/
theorem KT_mem {k : Int} (h1 : 1 ≤ k) (h2 : k ≤ 17) : [k, nameF k, argsF k] ∈ KT := by
  unfold KT
  refine List.mem_map.2 ⟨(k - 1).toNat, List.mem_range.2 (by omega), ?_⟩
  rw [show (((k - 1).toNat : Nat) : Int) + 1 = k by omega]
theorem KT_is {r : List Int} (h : r ∈ KT) : ∃ k, 1 ≤ k ∧ k ≤ 17 ∧ r = [k, nameF k, argsF k] := by
  unfold KT at h
  obtain ⟨i, hi, rfl⟩ := List.mem_map.1 h
  have := List.mem_range.1 hi
  exact ⟨_, by omega, by omega, rfl⟩
theorem row_is {r : List Int} {a b c : Int} (h : r.dropLast = [a, b, c]) : ∃ d, r = [a, b, c, d] := by
  have hne : r ≠ [] := fun e => by subst e; simp at h
  have := List.dropLast_concat_getLast hne
  rw [h] at this
  exact ⟨r.getLast hne, this.symm⟩
theorem done_row {M : Tab} {s : Int} (h : doneB M s = true) {r : List Int} (hr : r ∈ M) : ∃ k d, 1 ≤ k ∧ k ≤ 17 ∧ r = [k, nameF k, argsF k, d] ∧ (d = 1 ∨ nameF k ≠ s) := by
  simp only [doneB, Bool.and_eq_true, decide_eq_true_eq] at h
  have hm : r.dropLast ∈ KT := by rw [← h.1]; exact List.mem_map_of_mem hr
  obtain ⟨k, h1, h2, h3⟩ := KT_is hm
  obtain ⟨d, rfl⟩ := row_is h3
  refine ⟨k, d, h1, h2, rfl, ?_⟩
  have := List.all_eq_true.1 h.2 _ hr
  simpa using this
theorem lastK4 (a b c d : Int) : lastK [a, b, c, d] = d := rfl
theorem name_code {s k : Int} (hs : 0 ≤ s) : nameF k = s ↔ nameL k = strB s := by
  unfold nameF
  constructor
  · intro h; rw [← h, strB_enc]
  · intro h; rw [h]; exact enc_strB hs
theorem done_end {M : Tab} {s : Int} (hs : 0 ≤ s) (h : doneB M s = true) (h0 : ¬ (0 : Int) < (remT M).length) : namedL (strB s) = -1 := by
  refine Classical.byContradiction fun hn => ?_
  obtain ⟨h1, h2, h3⟩ := named_is hn
  have hm := KT_mem h1 h2
  have hu : unflagT M = KT := by
    simp only [doneB, Bool.and_eq_true, decide_eq_true_eq] at h
    exact h.1
  rw [← hu] at hm
  obtain ⟨r, hr, hd⟩ := List.mem_map.1 hm
  obtain ⟨d, rfl⟩ := row_is hd
  obtain ⟨k, d', _, _, e, hor⟩ := done_row h hr
  simp only [List.cons.injEq, and_true] at e
  obtain ⟨e1, _, _, e4⟩ := e
  rw [← e1, (name_code hs).2 h3] at hor
  have hd1 : d = 1 := by rw [e4]; exact hor.resolve_right (fun x => x rfl)
  have : [namedL (strB s), nameF (namedL (strB s)), argsF (namedL (strB s)), d] ∈ remT M := List.mem_filter.2 ⟨hr, by rw [lastK4, hd1]; rfl⟩
  have := List.length_pos_of_mem this
  omega
theorem clr_unflag (M : Tab) (k : Int) : unflagT (clrT M k) = unflagT M := by
  unfold unflagT clrT
  rw [List.map_map]
  apply List.map_congr_left
  intro r _
  simp only [Function.comp]
  split
  · rw [List.dropLast_concat]
  · rfl
theorem one_find {A : Tab} {k : Int} (h : ((findK A k).length : Int) = 1) {r : List Int} (hr : r ∈ A) (hk : hdK r = k) : findK A k = [r] := by
  have hm : r ∈ findK A k := List.mem_filter.2 ⟨hr, by simp [hk]⟩
  obtain ⟨x, hx⟩ := List.length_eq_one_iff.1 (show (findK A k).length = 1 by omega)
  rw [hx] at hm ⊢
  rw [List.mem_singleton.1 hm]
theorem done_hit {M : Tab} {s k : Int} (hs : 0 ≤ s) (h : doneB M s = true) (h1 : ((findK (clrT M k) k).length : Int) = 1) (he : ((findK (clrT M k) k).getD (Int.toNat 0) []).getD 1 0 = s) : namedL (strB s) = k := by
  have hu : unflagT M = KT := by
    simp only [doneB, Bool.and_eq_true, decide_eq_true_eq] at h
    exact h.1
  obtain ⟨r, hr⟩ := List.length_eq_one_iff.1 (show (findK (clrT M k) k).length = 1 by omega)
  rw [hr] at he
  have hm : r ∈ findK (clrT M k) k := by rw [hr]; exact List.mem_singleton.2 rfl
  obtain ⟨hm1, hm2⟩ := List.mem_filter.1 hm
  have hd : r.dropLast ∈ KT := by rw [← hu, ← clr_unflag M k]; exact List.mem_map_of_mem hm1
  obtain ⟨j, j1, j2, j3⟩ := KT_is hd
  obtain ⟨d, rfl⟩ := row_is j3
  have hj : j = k := of_decide_eq_true hm2
  subst hj
  have he : nameF j = s := he
  rw [← (name_code hs).1 he, named_name j1 j2]
theorem clr_shorter {k : Int} : ∀ {M : Tab}, (remT (clrT M k)).length ≤ (remT M).length
  | [] => Nat.le_refl _
  | r :: M => by
    have ih := clr_shorter (k := k) (M := M)
    unfold remT clrT at ih ⊢
    simp only [List.map_cons]
    by_cases hk : hdK r = k
    · rw [if_pos hk, List.filter_cons_of_neg (by simp [lastK_app])]
      by_cases hl : lastK r = 1
      · rw [List.filter_cons_of_pos (by simp [hl])]; simp only [List.length_cons]; omega
      · rw [List.filter_cons_of_neg (by simp [hl])]; exact ih
    · rw [if_neg hk]
      by_cases hl : lastK r = 1
      · rw [List.filter_cons_of_pos (by simp [hl]), List.filter_cons_of_pos (by simp [hl])]; simp only [List.length_cons]; omega
      · rw [List.filter_cons_of_neg (by simp [hl]), List.filter_cons_of_neg (by simp [hl])]; exact ih
theorem clr_less {k : Int} {x : List Int} (hk : hdK x = k) (hl : lastK x = 1) : ∀ {M : Tab}, x ∈ M → (remT (clrT M k)).length < (remT M).length
  | [], h => by cases h
  | r :: M, h => by
    have hs := clr_shorter (k := k) (M := M)
    rcases List.mem_cons.1 h with rfl | h
    · unfold remT clrT at hs ⊢
      simp only [List.map_cons]
      rw [if_pos hk, List.filter_cons_of_neg (by simp [lastK_app]), List.filter_cons_of_pos (by simp [hl])]
      simp only [List.length_cons]; omega
    · have ih := clr_less hk hl h
      unfold remT clrT at ih ⊢
      simp only [List.map_cons]
      by_cases hk' : hdK r = k
      · rw [if_pos hk', List.filter_cons_of_neg (by simp [lastK_app])]
        by_cases hl' : lastK r = 1
        · rw [List.filter_cons_of_pos (by simp [hl'])]; simp only [List.length_cons]; omega
        · rw [List.filter_cons_of_neg (by simp [hl'])]; exact ih
      · rw [if_neg hk']
        by_cases hl' : lastK r = 1
        · rw [List.filter_cons_of_pos (by simp [hl']), List.filter_cons_of_pos (by simp [hl'])]; simp only [List.length_cons]; omega
        · rw [List.filter_cons_of_neg (by simp [hl']), List.filter_cons_of_neg (by simp [hl'])]; exact ih
theorem done_step {M : Tab} {s k : Int} (h : doneB M s = true) (h2 : ((findK M k).length : Int) = 1) (h3 : ((findK M k).getD (Int.toNat 0) []).getD 3 0 = 1) (h1 : ((findK (clrT M k) k).length : Int) = 1)
    (he : ¬ ((findK (clrT M k) k).getD (Int.toNat 0) []).getD 1 0 = s) : ((remT (clrT M k)).length : Int) + 1 < (remT M).length + 1 ∧ doneB (clrT M k) s = true := by
  constructor
  · obtain ⟨r, hr⟩ := List.length_eq_one_iff.1 (show (findK M k).length = 1 by omega)
    rw [hr] at h3
    have hm : r ∈ findK M k := by rw [hr]; exact List.mem_singleton.2 rfl
    obtain ⟨hm1, hm2⟩ := List.mem_filter.1 hm
    obtain ⟨j, d, _, _, rfl, _⟩ := done_row h hm1
    have h3 : d = 1 := h3
    have := clr_less (k := k) (of_decide_eq_true hm2) (by rw [lastK4]; exact h3) hm1
    omega
  · have hu : unflagT M = KT := by
      simp only [doneB, Bool.and_eq_true, decide_eq_true_eq] at h
      exact h.1
    simp only [doneB, Bool.and_eq_true, decide_eq_true_eq]
    refine ⟨by rw [clr_unflag]; exact hu, List.all_eq_true.2 fun r' hr' => ?_⟩
    have hr2 := hr'
    obtain ⟨r, hr, e⟩ := List.mem_map.1 hr'
    obtain ⟨j, d, _, _, e2, hor⟩ := done_row h hr
    subst e2
    by_cases hj : hdK [j, nameF j, argsF j, d] = k
    · rw [if_pos hj] at e
      have e : r' = [j, nameF j, argsF j, 0] := e.symm
      subst e
      rw [one_find h1 hr2 hj] at he
      have he : ¬ nameF j = s := he
      simp [he]
    · rw [if_neg hj] at e
      subst e
      simpa using hor
theorem done_lit (s : Int) : doneB [[1, 110446801745254, 0, 1], [2, 28541623020515450, 1, 1], [3, 111533579466086, 2, 1], [4, 32482203839654510, 1, 1], [5, 31933599211480181, 2, 1], [6, 1836081765, 1, 1], [7, 500186510182, 2, 1], [8, 482771166835, 3, 1], [9, 1969384550, 3, 1], [10, 1667392620, 1, 1], [11, 126883927714918, 1, 1], [12, 1886479983, 1, 1], [13, 1667919717, 2, 1], [14, 1952870245, 1, 1], [15, 1903193453, 0, 1], [16, 431332815974, 1, 1], [17, 500236183153, 0, 1]] s = true := by
  simp only [doneB, Bool.and_eq_true, decide_eq_true_eq]
  refine ⟨by decide, ?_⟩
  simp
/-! ### numbers -/
theorem dig_bad {s i : Int} (h0 : 0 ≤ i) (h1 : i < lenS s) (h : atS s i < 48 ∨ 57 < atS s i) : digB (strB s) = false := by
  obtain ⟨b, hg, hat⟩ := at_get h0 h1
  rw [Bool.eq_false_iff]
  intro hd
  have := List.all_eq_true.1 hd _ (List.mem_of_getElem? hg)
  simp only [Bool.and_eq_true, decide_eq_true_eq] at this
  omega
theorem num_step {s i n : Int} (h0 : 0 ≤ i) (h1 : i < lenS s) (h : ¬ atS s i < 48) (h' : ¬ 57 < atS s i) (hb : numB (strB s) i n = true) : numB (strB s) (i + 1) (IntKind.wrap .u64 (IntKind.wrap .u64 (10 * n) + (atS s i - 48))) = true := by
  obtain ⟨b, hg, hat⟩ := at_get h0 h1
  simp only [numB, Bool.and_eq_true, decide_eq_true_eq] at hb ⊢
  rw [take_one h0 hg, num_app, wrap_64, wrap_64, ← hat, hb.2]
  refine ⟨?_, by omega⟩
  have := hb.1
  simp only [digB, List.all_append, List.all_cons, List.all_nil, Bool.and_true, Bool.and_eq_true, decide_eq_true_eq] at this ⊢
  exact ⟨this, by omega, by omega⟩
theorem num_end {s i n : Int} (h1 : i = lenS s) (hb : numB (strB s) i n = true) : digB (strB s) = true ∧ numL (strB s) = n := by
  simp only [numB, Bool.and_eq_true, decide_eq_true_eq] at hb
  rw [take_all h1] at hb
  exact hb
theorem numB_0 (s : Int) : numB (strB s) 0 0 = true := by simp [numB, digB, numL]
def numV (s : Int) : Int := if digB (strB s) then numL (strB s) else 0
theorem numV_range (s : Int) : 0 ≤ numV s ∧ numV s ≤ 18446744073709551615 := by
  unfold numV
  split
  · exact num_range _
  · decide
theorem ok_code {s : Int} (hs : 0 ≤ s) (h : digB (strB s) = true) : okN (strB s) = decide (decC (if digB (strB s) = true then numL (strB s) else 0) = s) := by
  rw [if_pos h]
  unfold okN decC
  rw [h, Bool.true_and, Bool.eq_iff_iff, decide_eq_true_eq, decide_eq_true_eq]
  constructor
  · intro e; rw [e]; exact enc_strB hs
  · intro e
    have := congrArg strB e
    rwa [strB_enc] at this
theorem ok_not {s : Int} (h : digB (strB s) = false) : okN (strB s) = false := by unfold okN; rw [h]; rfl
theorem numR_step {s i : Int} (h0 : 0 ≤ i) (h1 : i < lenS s) : IntKind.wrap .u64 (IntKind.wrap .u64 (10 * numR ((strB s).take i.toNat)) + IntKind.wrap .u8 (atS s i - 48)) = numR ((strB s).take (i + 1).toNat) := by
  obtain ⟨b, hg, hat⟩ := at_get h0 h1
  rw [take_one h0 hg, numR_app, wrap_64, wrap_64, wrap_8, hat]
  unfold stepR
  omega
end Go.SF.C22
