/- Chapter 17: lemmas in plain Lean, with no program in sight. Chapter 17: lemmas in plain Lean on the longest queue, places, Even. Chapter 17: lemmas in plain Lean for the laws. -/
import Derived.Test.YtnhdohhhgfdhfaaPQ
namespace Go.SF.C17
open Go.SF
set_option linter.unusedVariables false
set_option linter.unusedSimpArgs false
variable {T M : Tab} {c id rm i b : Int}

theorem rowT_len (T : Tab) (c : Int) : (rowT T c).length = (rowL T c).length := by simp [rowT]
theorem lenR_rowT (T : Tab) (c : Int) : ((rowT T c).length : Int) = lenR T c := by simp [rowT, lenR]
theorem hd_one (r : List Int) : (r.map fun x => [x]).map hdK = r := by
  rw [List.map_map]; exact (List.map_congr_left (g := id) fun a _ => rfl).trans (List.map_id _)
theorem lay_eq (T : Tab) (c id : Int) : setT T c (rowT T c ++ [[id]]) = layT T c id := by
  unfold setT layT rowT
  rw [List.map_append, hd_one]; rfl
theorem cut_eq (T : Tab) (c i : Int) (h : 0 ≤ i) : setT T c (List.take i.toNat (rowT T c) ++ List.drop (i + 1).toNat (rowT T c)) = cutT T c i := by
  unfold setT cutT rowT
  rw [← List.map_take, ← List.map_drop, ← List.map_append, hd_one, List.eraseIdx_eq_take_drop_succ]
  congr 3; omega
theorem layT_len (T : Tab) (c id : Int) : (layT T c id).length = T.length := by simp [layT]
theorem cutT_len (T : Tab) (c i : Int) : (cutT T c i).length = T.length := by simp [cutT]
theorem rowL_mem (h0 : 0 ≤ c) (h1 : c < T.length) : rowL T c ∈ T := by
  rw [rowL, List.getD_eq_getElem?_getD, List.getElem?_eq_getElem (by omega)]; exact List.getElem_mem _
/-- A table about one of its rows. -/
theorem split (h0 : 0 ≤ c) (h1 : c < T.length) : ∃ A B, T = A ++ rowL T c :: B ∧ (A.length : Int) = c := by
  refine ⟨T.take c.toNat, T.drop (c.toNat + 1), ?_, by rw [List.length_take]; omega⟩
  have : T[c.toNat]? = some (rowL T c) := by rw [rowL, List.getD_eq_getElem?_getD, List.getElem?_eq_getElem (by omega)]; rfl
  conv => lhs; rw [← List.take_append_drop c.toNat T]
  rw [List.drop_eq_getElem_cons (by omega)]
  congr 2
  rw [List.getElem?_eq_getElem (by omega)] at this
  simpa using this
theorem set_mid {A B : Tab} {r r' : List Int} (h : (A.length : Int) = c) : (A ++ r :: B).set c.toNat r' = A ++ r' :: B := by
  rw [show c.toNat = A.length by omega, List.set_append_right _ _ (Nat.le_refl _)]; simp
theorem rowL_mid {A B : Tab} {r : List Int} (h : (A.length : Int) = c) : rowL (A ++ r :: B) c = r := by
  simp [rowL, show c.toNat = A.length by omega]
theorem pairs_app : ∀ (A B : Tab) (c : Int), pairs c (A ++ B) = pairs c A ++ pairs (c + A.length) B
  | [], B, c => by simp [pairs]
  | r :: A, B, c => by
    simp only [List.cons_append, pairs, pairs_app A B (c + 1), List.append_assoc]
    congr 3; simp; omega
theorem pairs_keys : ∀ (T : Tab) (c : Int), (pairs c T).map hdK = T.flatten
  | [], c => rfl
  | r :: T, c => by
    simp only [pairs, List.map_append, List.map_map, pairs_keys T (c + 1), List.flatten_cons]
    congr 1
    exact (List.map_congr_left (g := _root_.id) fun a _ => rfl).trans (List.map_id _)
theorem pairs_len (T : Tab) (c : Int) : (pairs c T).length = T.flatten.length := by rw [← pairs_keys T c, List.length_map]
theorem pairs_mem : ∀ {T : Tab} {c : Int} {r : List Int}, r ∈ pairs c T ↔ ∃ k x, c ≤ k ∧ k < c + T.length ∧ x ∈ rowL T (k - c) ∧ r = [x, k]
  | [], c, r => by
    simp only [pairs, List.not_mem_nil, List.length_nil, false_iff]
    rintro ⟨k, x, h1, h2, _⟩; simp at h2; omega
  | s :: T, c, r => by
    simp only [pairs, List.mem_append, List.mem_map, pairs_mem (T := T), List.length_cons]
    constructor
    · rintro (⟨x, hx, rfl⟩ | ⟨k, x, h1, h2, h3, rfl⟩)
      · exact ⟨c, x, by omega, by omega, by simpa [rowL] using hx, rfl⟩
      · refine ⟨k, x, by omega, by omega, ?_, rfl⟩
        have e : (k - c).toNat = (k - (c + 1)).toNat + 1 := by omega
        simpa [rowL, e] using h3
    · rintro ⟨k, x, h1, h2, h3, rfl⟩
      by_cases e : k = c
      · subst e; exact .inl ⟨x, by simpa [rowL] using h3, rfl⟩
      · refine .inr ⟨k, x, by omega, by omega, ?_, rfl⟩
        have e : (k - c).toNat = (k - (c + 1)).toNat + 1 := by omega
        simpa [rowL, e] using h3

theorem inv_iff : invB T M rm = true ↔ (∀ r ∈ T, (r.length : Int) ≤ rm) ∧ T.flatten.Nodup ∧ M.Perm (pairs 0 T) := by
  simp only [invB, Bool.and_eq_true, List.all_eq_true, decide_eq_true_eq, List.isPerm_iff]
theorem has_iff : hasB T id = true ↔ id ∈ T.flatten := by
  simp only [hasB, List.any_eq_true, List.contains_iff_mem, List.mem_flatten]
theorem inv_keys (h : invB T M rm = true) : (M.map hdK).Perm T.flatten := by
  have := (inv_iff.1 h).2.2.map hdK
  rwa [pairs_keys] at this
theorem inv_len (h : invB T M rm = true) : M.length = T.flatten.length := by rw [(inv_iff.1 h).2.2.length_eq, pairs_len]
theorem total_eq (T : Tab) : total T = (T.flatten.length : Int) := by simp [total, List.length_flatten]
theorem inv_row (h : invB T M rm = true) (h0 : 0 ≤ c) (h1 : c < T.length) : lenR T c ≤ rm := (inv_iff.1 h).1 _ (rowL_mem h0 h1)
theorem lenR_pos (T : Tab) (c : Int) : 0 ≤ lenR T c := by unfold lenR; omega
/-- What is found. -/
theorem find_none (h : invB T M rm = true) (hk : hasB T id = false) : findK M id = [] := by
  refine List.filter_eq_nil_iff.2 fun r hr hc => ?_
  have : hdK r ∈ T.flatten := (inv_keys h).mem_iff.1 (List.mem_map_of_mem hr)
  rw [decide_eq_true_eq] at hc
  rw [hc] at this
  exact absurd (has_iff.2 this) (by rw [hk]; simp)
theorem find_one {M : Tab} (hM : M.Pairwise fun a b => hdK a < hdK b) {r : List Int} (hr : r ∈ M) : findK M (hdK r) = [r] := by
  obtain ⟨A, B, rfl⟩ := List.append_of_mem hr
  rw [List.pairwise_append, List.pairwise_cons] at hM
  obtain ⟨_, ⟨h2, _⟩, h3⟩ := hM
  unfold findK
  rw [List.filter_append, List.filter_cons_of_pos (by simp), List.filter_eq_nil_iff.2, List.filter_eq_nil_iff.2]
  · rfl
  · intro x hx; have := h2 x hx; simp; omega
  · intro x hx; have := h3 x hx r (List.mem_cons_self ..); simp; omega
theorem cpu_row (h : hasB T id = true) : 0 ≤ cpuF T id ∧ cpuF T id < T.length ∧ id ∈ rowL T (cpuF T id) := by
  have hb : (T.any fun r => r.contains id) = true := h
  have hl : T.findIdx (fun r => r.contains id) < T.length := List.findIdx_lt_length.2 (by simpa [List.any_eq_true] using hb)
  refine ⟨by unfold cpuF; omega, by unfold cpuF; omega, ?_⟩
  have := List.findIdx_getElem (p := fun r : List Int => r.contains id) (w := hl)
  rw [List.contains_iff_mem] at this
  have e : rowL T (cpuF T id) = T[T.findIdx fun r => r.contains id] := by
    rw [rowL, cpuF, Int.toNat_natCast, List.getD_eq_getElem?_getD, List.getElem?_eq_getElem hl]; rfl
  rw [e]; exact this
theorem at_row (h : hasB T id = true) : 0 ≤ atF T id ∧ atF T id < lenR T (cpuF T id) ∧ (rowL T (cpuF T id)).getD (atF T id).toNat 0 = id := by
  have hm := (cpu_row h).2.2
  have hl : (rowL T (cpuF T id)).idxOf id < (rowL T (cpuF T id)).length := List.idxOf_lt_length_iff.2 hm
  refine ⟨by unfold atF; omega, by unfold atF lenR; omega, ?_⟩
  have h2 : (atF T id).toNat = (rowL T (cpuF T id)).idxOf id := by unfold atF; omega
  rw [h2, List.getD_eq_getElem?_getD, List.getElem?_eq_getElem hl]
  exact List.getElem_idxOf hl
theorem find_has (h : invB T M rm = true) (hM : M.Pairwise fun a b => hdK a < hdK b) (hk : hasB T id = true) : findK M id = [[id, cpuF T id]] := by
  obtain ⟨h0, h1, h2⟩ := cpu_row hk
  have hm : [id, cpuF T id] ∈ pairs 0 T := pairs_mem.2 ⟨cpuF T id, id, by omega, by omega, by simpa using h2, rfl⟩
  exact find_one hM ((inv_iff.1 h).2.2.mem_iff.2 hm)
theorem has_find (h : invB T M rm = true) (hM : M.Pairwise fun a b => hdK a < hdK b) : hasB T id = decide (0 < (findK M id).length) := by
  cases hk : hasB T id
  · rw [find_none h hk]; rfl
  · rw [find_has h hM hk]; rfl

/-- An id more. -/
theorem put_perm {row : List Int} (h : ∀ r ∈ M, hdK r ≠ hdK row) : (putK M row).Perm (row :: M) := by
  unfold putK
  refine (List.perm_middle).trans (.cons _ ?_)
  induction M with
  | nil => exact .nil
  | cons a M ih =>
    have ha := h a (List.mem_cons_self ..)
    have ih := ih fun r hr => h r (List.mem_cons_of_mem _ hr)
    by_cases hlt : hdK a < hdK row
    · rw [List.filter_cons_of_pos (by simpa using hlt), List.filter_cons_of_neg (by simp; omega)]
      exact .cons _ ih
    · rw [List.filter_cons_of_neg (by simpa using hlt), List.filter_cons_of_pos (by simp; omega)]
      exact (List.perm_middle).trans (.cons _ ih)
theorem lay_pairs {A B : Tab} {r : List Int} : (pairs 0 (A ++ (r ++ [id]) :: B)).Perm ([id, (A.length : Int)] :: pairs 0 (A ++ r :: B)) := by
  simp only [pairs_app, pairs, List.map_append, List.map_cons, List.map_nil, List.append_assoc, Int.zero_add, List.cons_append, List.nil_append]
  have : (pairs 0 A ++ (r.map (fun x => [x, (A.length : Int)]) ++ [id, (A.length : Int)] :: pairs (↑A.length + 1) B)).Perm ([id, (A.length : Int)] :: (pairs 0 A ++ (r.map (fun x => [x, (A.length : Int)]) ++ pairs (↑A.length + 1) B))) := by
    rw [← List.append_assoc, ← List.append_assoc]; exact List.perm_middle
  exact this
theorem nodup_pairs {T T' : Tab} (h : (pairs 0 T).Perm (pairs 0 T')) : T.flatten.Perm T'.flatten := by
  have := h.map hdK; rwa [pairs_keys, pairs_keys] at this
theorem keys_cons {T T' : Tab} {r : List Int} (h : (pairs 0 T).Perm (r :: pairs 0 T')) : T.flatten.Perm (hdK r :: T'.flatten) := by
  have := h.map hdK; rwa [pairs_keys, List.map_cons, pairs_keys] at this
theorem inv_lay (h : invB T M rm = true) (hk : hasB T id = false) (h0 : 0 ≤ c) (h1 : c < T.length) (hr : lenR T c < rm) : invB (layT T c id) (putK M [id, c]) rm = true := by
  obtain ⟨i1, i2, i3⟩ := inv_iff.1 h
  have hnot : id ∉ T.flatten := fun hm => by rw [has_iff.2 hm] at hk; cases hk
  have hkeys : ∀ r ∈ M, hdK r ≠ hdK [id, c] := fun r hrm e => hnot (by
    have := (inv_keys h).mem_iff.1 (List.mem_map_of_mem (f := hdK) hrm)
    rwa [e] at this)
  obtain ⟨A, B, e, hA⟩ := split h0 h1
  generalize hr' : rowL T c = r at *
  have el : layT T c id = A ++ (r ++ [id]) :: B := by rw [layT, hr', e, set_mid hA]
  have hp : (pairs 0 (layT T c id)).Perm ([id, c] :: pairs 0 T) := by rw [el, e, ← hA]; exact lay_pairs
  refine inv_iff.2 ⟨fun s hs => ?_, ?_, ?_⟩
  · rw [el] at hs
    rw [e] at i1
    rcases List.mem_append.1 hs with hs | hs
    · exact i1 s (List.mem_append_left _ hs)
    · rcases List.mem_cons.1 hs with rfl | hs
      · unfold lenR at hr; rw [hr'] at hr; simp; omega
      · exact i1 s (List.mem_append_right _ (List.mem_cons_of_mem _ hs))
  · rw [(keys_cons hp).nodup_iff]
    exact List.nodup_cons.2 ⟨hnot, i2⟩
  · exact (put_perm hkeys).trans ((i3.cons _).trans hp.symm)
/-- One less. -/
theorem cut_pairs {A B : Tab} {r : List Int} {n : Nat} (hn : n < r.length) : (pairs 0 (A ++ r :: B)).Perm ([r.getD n 0, (A.length : Int)] :: pairs 0 (A ++ r.eraseIdx n :: B)) := by
  have hp : r.Perm (r.getD n 0 :: r.eraseIdx n) := by
    rw [List.getD_eq_getElem?_getD, List.getElem?_eq_getElem hn, List.eraseIdx_eq_take_drop_succ]
    conv => lhs; rw [← List.take_append_drop n r, List.drop_eq_getElem_cons hn]
    exact List.perm_middle
  simp only [pairs_app, pairs, Int.zero_add]
  refine (List.Perm.append_left _ ((hp.map _).append_right _)).trans ?_
  simp only [List.map_cons, List.cons_append]
  exact List.perm_middle
theorem inv_cut (h : invB T M rm = true) (h0 : 0 ≤ c) (h1 : c < T.length) (hi : 0 ≤ i) (hr : i < lenR T c) : invB (cutT T c i) (delK M ((rowL T c).getD i.toNat 0)) rm = true ∧
    hasB (cutT T c i) ((rowL T c).getD i.toNat 0) = false ∧ T.flatten.Perm ((rowL T c).getD i.toNat 0 :: (cutT T c i).flatten) := by
  obtain ⟨i1, i2, i3⟩ := inv_iff.1 h
  obtain ⟨A, B, e, hA⟩ := split h0 h1
  have hrl : i.toNat < (rowL T c).length := by unfold lenR at hr; omega
  generalize hr' : rowL T c = r at *
  have el : cutT T c i = A ++ r.eraseIdx i.toNat :: B := by rw [cutT, hr', e, set_mid hA]
  have hp : (pairs 0 T).Perm ([r.getD i.toNat 0, c] :: pairs 0 (cutT T c i)) := by
    rw [el, ← hA]
    rw [show pairs 0 T = pairs 0 (A ++ r :: B) by rw [← e]]
    exact cut_pairs hrl
  have hf := keys_cons hp
  have hnd := hf.nodup_iff.1 i2
  have hnot : r.getD i.toNat 0 ∉ (cutT T c i).flatten := (List.nodup_cons.1 hnd).1
  refine ⟨inv_iff.2 ⟨fun s hs => ?_, (List.nodup_cons.1 hnd).2, ?_⟩, ?_, hf⟩
  · rw [el] at hs
    rw [e] at i1
    rcases List.mem_append.1 hs with hs | hs
    · exact i1 s (List.mem_append_left _ hs)
    · rcases List.mem_cons.1 hs with rfl | hs
      · have := i1 r (List.mem_append_right _ (List.mem_cons_self ..))
        have := List.length_eraseIdx_le r i.toNat
        omega
      · exact i1 s (List.mem_append_right _ (List.mem_cons_of_mem _ hs))
  · unfold delK
    have := (i3.trans hp).filter (fun s => !decide (hdK s = r.getD i.toNat 0))
    rw [List.filter_cons_of_neg (by simp [hdK])] at this
    refine this.trans (List.Perm.of_eq (List.filter_eq_self.2 fun s hs => ?_))
    have hm : hdK s ∈ (cutT T c i).flatten := by rw [← pairs_keys (cutT T c i) 0]; exact List.mem_map_of_mem hs
    simp only [Bool.not_eq_true', decide_eq_false_iff_not]
    intro e2; rw [e2] at hm; exact hnot hm
  · cases hb : hasB (cutT T c i) (r.getD i.toNat 0)
    · rfl
    · exact absurd (has_iff.1 hb) hnot
end Go.SF.C17
namespace Go.SF.C17
open Go.SF
set_option linter.unusedVariables false
set_option linter.unusedSimpArgs false
variable {T M : Tab} {c id rm i b s x : Int}

theorem rowT_get (T : Tab) (c : Int) (n : Nat) : ((rowT T c).getD n []).getD 0 0 = (rowL T c).getD n 0 := by
  unfold rowT rowL
  generalize T.getD c.toNat [] = r
  simp only [List.getD_eq_getElem?_getD, List.getElem?_map]
  cases r[n]? <;> rfl
theorem best_step (h0 : 0 ≤ c) (h1 : c < T.length) : bestF s T c b = bestF s T (c + 1) (if betB s T c b then c else b) := by
  unfold bestF
  rw [show T.length - c.toNat = (T.length - (c + 1).toNat) + 1 by omega]; rfl
theorem best_end (h1 : ¬ c < T.length) : bestF s T c b = b := by
  unfold bestF
  rw [show T.length - c.toNat = 0 by omega]; rfl
theorem long_yes (h0 : 0 ≤ c) (h1 : c < T.length) (h : lenR T b < lenR T c) : bestF 1 T c b = bestF 1 T (c + 1) c := by
  rw [best_step h0 h1, betB, if_pos rfl, decide_eq_true h]; rfl
theorem long_no (h0 : 0 ≤ c) (h1 : c < T.length) (h : ¬ lenR T b < lenR T c) : bestF 1 T c b = bestF 1 T (c + 1) b := by
  rw [best_step h0 h1, betB, if_pos rfl, decide_eq_false h]; rfl
theorem short_yes (h0 : 0 ≤ c) (h1 : c < T.length) (h : lenR T c < lenR T b) : bestF 0 T c b = bestF 0 T (c + 1) c := by
  rw [best_step h0 h1]; unfold betB; simp [h]
theorem short_no (h0 : 0 ≤ c) (h1 : c < T.length) (h : ¬ lenR T c < lenR T b) : bestF 0 T c b = bestF 0 T (c + 1) b := by
  rw [best_step h0 h1]; unfold betB; simp [h]
theorem long_max0 (T : Tab) : ∀ (n : Nat) (c b : Int), T.length - c.toNat = n → 0 ≤ c → 0 ≤ b → b < T.length →
    0 ≤ bestF 1 T c b ∧ bestF 1 T c b < T.length ∧ lenR T b ≤ lenR T (bestF 1 T c b) ∧ ∀ k, c ≤ k → k < T.length → lenR T k ≤ lenR T (bestF 1 T c b)
  | 0, c, b, hn, h0, hb, hb1 => by rw [best_end (by omega)]; exact ⟨hb, hb1, Int.le_refl _, fun k _ _ => by omega⟩
  | n + 1, c, b, hn, h0, hb, hb1 => by
    by_cases h : lenR T b < lenR T c
    · rw [long_yes h0 (by omega) h]
      obtain ⟨a1, a2, a3, a4⟩ := long_max0 T n (c + 1) c (by omega) (by omega) h0 (by omega)
      refine ⟨a1, a2, by omega, fun k h2 h3 => ?_⟩
      rcases Int.lt_or_eq_of_le h2 with h4 | h4
      · exact a4 k (by omega) h3
      · subst h4; exact a3
    · rw [long_no h0 (by omega) h]
      obtain ⟨a1, a2, a3, a4⟩ := long_max0 T n (c + 1) b (by omega) (by omega) hb hb1
      refine ⟨a1, a2, a3, fun k h2 h3 => ?_⟩
      rcases Int.lt_or_eq_of_le h2 with h4 | h4
      · exact a4 k (by omega) h3
      · subst h4; omega
theorem short_min0 (T : Tab) : ∀ (n : Nat) (c b : Int), T.length - c.toNat = n → 0 ≤ c → 0 ≤ b → b < T.length →
    0 ≤ bestF 0 T c b ∧ bestF 0 T c b < T.length ∧ lenR T (bestF 0 T c b) ≤ lenR T b ∧ ∀ k, c ≤ k → k < T.length → lenR T (bestF 0 T c b) ≤ lenR T k
  | 0, c, b, hn, h0, hb, hb1 => by rw [best_end (by omega)]; exact ⟨hb, hb1, Int.le_refl _, fun k _ _ => by omega⟩
  | n + 1, c, b, hn, h0, hb, hb1 => by
    by_cases h : lenR T c < lenR T b
    · rw [short_yes h0 (by omega) h]
      obtain ⟨a1, a2, a3, a4⟩ := short_min0 T n (c + 1) c (by omega) (by omega) h0 (by omega)
      refine ⟨a1, a2, by omega, fun k h2 h3 => ?_⟩
      rcases Int.lt_or_eq_of_le h2 with h4 | h4
      · exact a4 k (by omega) h3
      · subst h4; exact a3
    · rw [short_no h0 (by omega) h]
      obtain ⟨a1, a2, a3, a4⟩ := short_min0 T n (c + 1) b (by omega) (by omega) hb hb1
      refine ⟨a1, a2, a3, fun k h2 h3 => ?_⟩
      rcases Int.lt_or_eq_of_le h2 with h4 | h4
      · exact a4 k (by omega) h3
      · subst h4; omega
theorem long_in (h : 1 ≤ (T.length : Int)) : 0 ≤ (bestF 1 T 0 0) ∧ (bestF 1 T 0 0) < T.length := ⟨(long_max0 T _ 0 0 rfl (by omega) (by omega) (by omega)).1, (long_max0 T _ 0 0 rfl (by omega) (by omega) (by omega)).2.1⟩
theorem short_in (h : 1 ≤ (T.length : Int)) : 0 ≤ (bestF 0 T 0 0) ∧ (bestF 0 T 0 0) < T.length := ⟨(short_min0 T _ 0 0 rfl (by omega) (by omega) (by omega)).1, (short_min0 T _ 0 0 rfl (by omega) (by omega) (by omega)).2.1⟩
theorem long_max (h0 : 0 ≤ c) (h1 : c < T.length) : lenR T c ≤ lenR T (bestF 1 T 0 0) := (long_max0 T _ 0 0 rfl (by omega) (by omega) (by omega)).2.2.2 c h0 h1
theorem short_min (h0 : 0 ≤ c) (h1 : c < T.length) : lenR T (bestF 0 T 0 0) ≤ lenR T c := (short_min0 T _ 0 0 rfl (by omega) (by omega) (by omega)).2.2.2 c h0 h1

theorem push_no {k : Int} (h : pushE T c id rm = k) (hk : k ≠ 0) : pushT T c id rm = T := if_neg (by omega)
theorem push_range (h : c < 0 ∨ (T.length : Int) ≤ c) : pushE T c id rm = 2 := if_pos h
theorem push_arg (h0 : 0 ≤ c) (h1 : c < T.length) (h : id < 0) : pushE T c id rm = 1 := by
  rw [pushE, if_neg (by omega), if_pos h]
theorem push_twice (h0 : 0 ≤ c) (h1 : c < T.length) (h : ¬ id < 0) (hk : hasB T id = true) : pushE T c id rm = 5 := by
  rw [pushE, if_neg (by omega), if_neg h, if_pos hk]
theorem push_full (h0 : 0 ≤ c) (h1 : c < T.length) (h : ¬ id < 0) (hk : hasB T id = false) (hr : lenR T c = rm) : pushE T c id rm = 3 := by
  rw [pushE, if_neg (by omega), if_neg h, if_neg (by rw [hk]; simp), if_pos hr]
theorem push_ok (h0 : 0 ≤ c) (h1 : c < T.length) (h : ¬ id < 0) (hk : hasB T id = false) (hr : ¬ lenR T c = rm) : pushE T c id rm = 0 ∧ pushT T c id rm = layT T c id := by
  have e : pushE T c id rm = 0 := by rw [pushE, if_neg (by omega), if_neg h, if_neg (by rw [hk]; simp), if_neg hr]
  exact ⟨e, if_pos e⟩
theorem has_of (h : invB T M rm = true) (hM : M.Pairwise fun a b => hdK a < hdK b) (hf : 0 < ((findK M id).length : Int)) : hasB T id = true := by
  rw [has_find h hM]; exact decide_eq_true (by omega)
theorem has_not (h : invB T M rm = true) (hM : M.Pairwise fun a b => hdK a < hdK b) (hf : ¬ 0 < ((findK M id).length : Int)) : hasB T id = false := by
  rw [has_find h hM]; exact decide_eq_false (by omega)
/-- Where. -/
theorem atG_stop (h0 : 0 ≤ i) (h1 : i < lenR T c) (h : (rowL T c).getD i.toNat 0 = id) : atG T c id i = i := by
  unfold atG
  unfold lenR at h1
  rw [List.drop_eq_getElem_cons (by omega)]
  rw [List.getD_eq_getElem?_getD, List.getElem?_eq_getElem (by omega)] at h
  simp only [Option.getD_some] at h
  rw [List.idxOf_cons, h]; simp
theorem atG_step (h0 : 0 ≤ i) (h1 : i < lenR T c) (h : ¬ (rowL T c).getD i.toNat 0 = id) : atG T c id i = atG T c id (i + 1) := by
  unfold atG
  unfold lenR at h1
  rw [List.drop_eq_getElem_cons (by omega)]
  rw [List.getD_eq_getElem?_getD, List.getElem?_eq_getElem (by omega)] at h
  simp only [Option.getD_some] at h
  rw [List.idxOf_cons, show (i + 1).toNat = i.toNat + 1 by omega, show ((rowL T c)[i.toNat] == id) = false by simpa using h, cond_false]
  omega
theorem atG_ge : i ≤ atG T c id i := by unfold atG; omega
theorem atG0 : atG T (cpuF T id) id 0 = atF T id := by simp [atG, atF]
theorem where_has (h : invB T M rm = true) (hM : M.Pairwise fun a b => hdK a < hdK b) (hk : hasB T id = true) : ((findK M id).getD (0 : Int).toNat []).getD 1 0 = cpuF T id := by
  rw [find_has h hM hk]; rfl
/-- Pop. -/
theorem any_not (h : 1 ≤ (T.length : Int)) (hl : lenR T (bestF 1 T 0 0) = 0) : anyB T = false := by
  cases hb : anyB T
  · rfl
  · obtain ⟨r, hr, hne⟩ := List.any_eq_true.1 hb
    obtain ⟨n, hn, rfl⟩ := List.getElem_of_mem hr
    have := long_max (T := T) (c := n) (by omega) (by omega)
    rw [hl] at this
    have e : lenR T n = (T[n].length : Int) := by rw [lenR, rowL, Int.toNat_natCast, List.getD_eq_getElem?_getD, List.getElem?_eq_getElem hn]; rfl
    rw [e] at this
    have : T[n] = [] := List.length_eq_zero_iff.1 (by omega)
    rw [this] at hne; simp at hne
theorem any_of (h0 : 0 ≤ c) (h1 : c < T.length) (hl : 0 < lenR T c) : anyB T = true := by
  refine List.any_eq_true.2 ⟨rowL T c, rowL_mem h0 h1, ?_⟩
  unfold lenR at hl
  cases hr : rowL T c
  · rw [hr] at hl; simp at hl
  · rfl
theorem pop_own (hl : 0 < lenR T c) : popF T c = c ∧ popT T c = cutT T c 0 ∧ popX T c = (rowL T c).getD (0 : Int).toNat 0 := by
  simp [popT, popX, popF, popI, hl]
theorem pop_long (hl : ¬ 0 < lenR T c) : popF T c = (bestF 1 T 0 0) ∧ popT T c = cutT T (bestF 1 T 0 0) (lenR T (bestF 1 T 0 0) - 1) ∧ popX T c = (rowL T (bestF 1 T 0 0)).getD (lenR T (bestF 1 T 0 0) - 1).toNat 0 := by
  simp [popT, popX, popF, popI, hl]
theorem drop_has (h : hasB T id = true) : dropT T id = cutT T (cpuF T id) (atF T id) := if_pos h
theorem drop_not (h : hasB T id = false) : dropT T id = T := if_neg (by rw [h]; simp)
/-- Even. -/
theorem sq_app (A B : Tab) : sq (A ++ B) = sq A + sq B := by simp [sq]
theorem sq_cons (r : List Int) (B : Tab) : sq (r :: B) = (r.length : Int) * r.length + sq B := by simp [sq]
theorem sq_set {r' : List Int} (h0 : 0 ≤ c) (h1 : c < T.length) : sq (T.set c.toNat r') = sq T - lenR T c * lenR T c + (r'.length : Int) * r'.length := by
  obtain ⟨A, B, e, hA⟩ := split h0 h1
  have hl : lenR T c = ((rowL T c).length : Int) := rfl
  generalize rowL T c = r at *
  rw [hl, e, set_mid hA, sq_app, sq_app, sq_cons, sq_cons]; omega
theorem row_set {r' : List Int} {k : Int} (h0 : 0 ≤ c) (h1 : c < T.length) (hk : 0 ≤ k) : rowL (T.set c.toNat r') k = if k = c then r' else rowL T k := by
  unfold rowL
  rw [List.getD_eq_getElem?_getD, List.getElem?_set]
  by_cases e : k = c
  · subst e; rw [if_pos rfl, if_pos rfl, if_pos (by omega)]; rfl
  · rw [if_neg e, if_neg (by omega), List.getD_eq_getElem?_getD]
theorem row_cut {k : Int} (h0 : 0 ≤ c) (h1 : c < T.length) (hk : 0 ≤ k) : rowL (cutT T c i) k = if k = c then (rowL T c).eraseIdx i.toNat else rowL T k := row_set h0 h1 hk
theorem row_lay {k : Int} (h0 : 0 ≤ c) (h1 : c < T.length) (hk : 0 ≤ k) : rowL (layT T c id) k = if k = c then rowL T c ++ [id] else rowL T k := row_set h0 h1 hk
theorem len_cut {k : Int} (h0 : 0 ≤ c) (h1 : c < T.length) (hk : 0 ≤ k) (hi : 0 ≤ i) (hl : i < lenR T c) : lenR (cutT T c i) k = if k = c then lenR T c - 1 else lenR T k := by
  unfold lenR at hl ⊢
  rw [row_cut h0 h1 hk]
  split
  · rw [List.length_eraseIdx, if_pos (by omega)]; omega
  · rfl
theorem len_lay {k : Int} (h0 : 0 ≤ c) (h1 : c < T.length) (hk : 0 ≤ k) : lenR (layT T c id) k = if k = c then lenR T c + 1 else lenR T k := by
  unfold lenR
  rw [row_lay h0 h1 hk]
  split
  · simp
  · rfl
theorem sq_pos (T : Tab) : 0 ≤ sq T := by
  induction T with
  | nil => simp [sq]
  | cons r T ih => rw [sq_cons]; have := Int.mul_nonneg (Int.natCast_nonneg r.length) (Int.natCast_nonneg r.length); omega
theorem sq_le : ∀ {T : Tab}, (∀ r ∈ T, (r.length : Int) ≤ 64) → sq T ≤ 4096 * T.length
  | [], _ => by simp [sq]
  | r :: T, h => by
    rw [sq_cons]
    have h1 := sq_le fun s hs => h s (List.mem_cons_of_mem _ hs)
    have h2 : (r.length : Int) * r.length ≤ 64 * 64 := Int.mul_le_mul (h r (List.mem_cons_self ..)) (h r (List.mem_cons_self ..)) (by omega) (by omega)
    simp; omega
/-- One that goes: from the longest to the shortest. -/
abbrev lastX (T : Tab) : Int := (rowL T (bestF 1 T 0 0)).getD (lenR T (bestF 1 T 0 0) - 1).toNat 0
theorem ne_of_gap (h : ¬ lenR T (bestF 1 T 0 0) < lenR T (bestF 0 T 0 0) + 2) : ¬ (bestF 0 T 0 0) = (bestF 1 T 0 0) := fun e => by rw [e] at h; omega
theorem sq_step (h : 1 ≤ (T.length : Int)) (hg : ¬ lenR T (bestF 1 T 0 0) < lenR T (bestF 0 T 0 0) + 2) : sq (evStep T) < sq T := by
  obtain ⟨l0, l1⟩ := long_in h
  obtain ⟨s0, s1⟩ := short_in h
  have hne := ne_of_gap hg
  have hp := lenR_pos T (bestF 0 T 0 0)
  have hc : (cutT T (bestF 1 T 0 0) (lenR T (bestF 1 T 0 0) - 1)).length = T.length := cutT_len ..
  have e1 : sq (cutT T (bestF 1 T 0 0) (lenR T (bestF 1 T 0 0) - 1)) = sq T - lenR T (bestF 1 T 0 0) * lenR T (bestF 1 T 0 0) + (lenR T (bestF 1 T 0 0) - 1) * (lenR T (bestF 1 T 0 0) - 1) := by
    unfold cutT
    rw [sq_set l0 l1]
    have : (((rowL T (bestF 1 T 0 0)).eraseIdx (lenR T (bestF 1 T 0 0) - 1).toNat).length : Int) = lenR T (bestF 1 T 0 0) - 1 := by
      rw [List.length_eraseIdx, if_pos (by unfold lenR at *; omega)]; unfold lenR at *; omega
    rw [this]
  have e2 : lenR (cutT T (bestF 1 T 0 0) (lenR T (bestF 1 T 0 0) - 1)) (bestF 0 T 0 0) = lenR T (bestF 0 T 0 0) := by
    rw [len_cut l0 l1 s0 (by omega) (by omega), if_neg hne]
  have e3 : sq (evStep T) = sq (cutT T (bestF 1 T 0 0) (lenR T (bestF 1 T 0 0) - 1)) - lenR T (bestF 0 T 0 0) * lenR T (bestF 0 T 0 0) + (lenR T (bestF 0 T 0 0) + 1) * (lenR T (bestF 0 T 0 0) + 1) := by
    unfold evStep layT
    rw [sq_set s0 (by rw [hc]; exact s1), e2]
    have : ((rowL (cutT T (bestF 1 T 0 0) (lenR T (bestF 1 T 0 0) - 1)) (bestF 0 T 0 0) ++ [lastX T]).length : Int) = lenR T (bestF 0 T 0 0) + 1 := by rw [← e2]; simp [lenR]
    rw [this]
  rw [e3, e1]
  generalize lenR T (bestF 1 T 0 0) = L at *
  generalize lenR T (bestF 0 T 0 0) = S at *
  have : (L - 1) * (L - 1) = L * L - 2 * L + 1 := by rw [Int.sub_mul, Int.mul_sub]; omega
  have : (S + 1) * (S + 1) = S * S + 2 * S + 1 := by rw [Int.add_mul, Int.mul_add]; omega
  omega
theorem evStep_len (T : Tab) : (evStep T).length = T.length := by rw [evStep, layT_len, cutT_len]
theorem evGo_fuel : ∀ (n m : Nat) (T : Tab), 1 ≤ (T.length : Int) → sq T ≤ n → sq T ≤ m → evGo n T = evGo m T
  | 0, 0, T, _, _, _ => rfl
  | n + 1, 0, T, hT, h1, h2 => by
    rw [evGo, evGo]
    cases hb : evOK T
    · have := sq_step hT (of_decide_eq_false hb); have := sq_pos (evStep T); omega
    · simp
  | 0, m + 1, T, hT, h1, h2 => by
    rw [evGo, evGo]
    cases hb : evOK T
    · have := sq_step hT (of_decide_eq_false hb); have := sq_pos (evStep T); omega
    · simp
  | n + 1, m + 1, T, hT, h1, h2 => by
    rw [evGo, evGo]
    cases hb : evOK T
    · have := sq_step hT (of_decide_eq_false hb)
      rw [evGo_fuel n m (evStep T) (by rw [evStep_len]; exact hT) (by omega) (by omega)]
    · simp
theorem even_end (hg : lenR T (bestF 1 T 0 0) < lenR T (bestF 0 T 0 0) + 2) : evenN T = 0 ∧ evenT T = T := by
  have hb : evOK T = true := decide_eq_true hg
  unfold evenN evenT
  cases (sq T).toNat <;> simp [evGo, hb]
theorem even_step (h : 1 ≤ (T.length : Int)) (hg : ¬ lenR T (bestF 1 T 0 0) < lenR T (bestF 0 T 0 0) + 2) : evenN T = evenN (evStep T) + 1 ∧ evenT T = evenT (evStep T) := by
  have hb : evOK T = false := decide_eq_false hg
  have h1 := sq_step h hg
  have h2 := sq_pos (evStep T)
  have e : evGo (sq T).toNat T = ((evGo (sq (evStep T)).toNat (evStep T)).1 + 1, (evGo (sq (evStep T)).toNat (evStep T)).2) := by
    obtain ⟨n, hn⟩ : ∃ n, (sq T).toNat = n + 1 := ⟨(sq T).toNat - 1, by omega⟩
    rw [hn, evGo, if_neg (by rw [hb]; simp), evGo_fuel n (sq (evStep T)).toNat (evStep T) (by rw [evStep_len]; exact h) (by omega) (by omega)]
  unfold evenN evenT
  rw [e]; exact ⟨rfl, rfl⟩
theorem even_len (T : Tab) : ∀ n, (evGo n T).2.length = T.length := by
  intro n
  induction n generalizing T with
  | zero => rfl
  | succ n ih => rw [evGo]; split; rfl; rw [ih, evStep_len]
theorem evenT_len (T : Tab) : (evenT T).length = T.length := even_len T _
theorem inv_step (h : invB T M rm = true) (hT : 1 ≤ (T.length : Int)) (hg : ¬ lenR T (bestF 1 T 0 0) < lenR T (bestF 0 T 0 0) + 2) :
    invB (evStep T) (putK (delK M (lastX T)) [lastX T, (bestF 0 T 0 0)]) rm = true := by
  obtain ⟨l0, l1⟩ := long_in hT
  obtain ⟨s0, s1⟩ := short_in hT
  have hne := ne_of_gap hg
  have hp := lenR_pos T (bestF 0 T 0 0)
  obtain ⟨i1, i2, _⟩ := inv_cut h l0 l1 (i := lenR T (bestF 1 T 0 0) - 1) (by omega) (by omega)
  refine inv_lay i1 i2 s0 (by rw [cutT_len]; exact s1) ?_
  rw [len_cut l0 l1 s0 (by omega) (by omega), if_neg hne]
  have := inv_row h l0 l1
  omega
theorem inv_new {n : Int} (hr : 1 ≤ rm) : invB (List.replicate n.toNat []) [] rm = true := by
  have h : ∀ (n : Nat) (c : Int), pairs c (List.replicate n []) = [] := by
    intro n
    induction n with
    | zero => intro c; rfl
    | succ n ih => intro c; rw [List.replicate_succ, pairs, ih]; rfl
  refine inv_iff.2 ⟨fun r hr' => ?_, ?_, ?_⟩
  · rw [(List.mem_replicate.1 hr').2]; simp; omega
  · simp
  · rw [h]
theorem inv_sq (h : invB T M rm = true) (h8 : (T.length : Int) ≤ 8) (hr : rm ≤ 64) : sq T ≤ 100000 := by
  have := sq_le (T := T) fun r hr' => by have := (inv_iff.1 h).1 r hr'; omega
  omega
end Go.SF.C17
namespace Go.SF.C17
open Go.SF
set_option linter.unusedVariables false
set_option linter.unusedSimpArgs false
variable {T M IN : Tab} {c id rm i b s x many : Int}

/-! ### one queue of numbers that rise -/
theorem seq_len (a b : Int) : (seqT a b).length = 2 := rfl
theorem seq_row0 (a b : Int) : rowL (seqT a b) 0 = (List.range (b - a).toNat).map fun (i : Nat) => a + i := rfl
theorem seq_row1 (a b : Int) : rowL (seqT a b) 1 = [] := rfl
theorem seq_l0 {a b : Int} (h : a ≤ b) : lenR (seqT a b) 0 = b - a := by
  unfold lenR; rw [seq_row0]; simp; omega
theorem seq_l1 (a b : Int) : lenR (seqT a b) 1 = 0 := rfl
theorem seq_has {a b x : Int} : hasB (seqT a b) x = true ↔ a ≤ x ∧ x < b := by
  rw [has_iff]
  simp only [seqT, List.flatten_cons, List.flatten_nil, List.append_nil, List.nil_append, List.mem_map, List.mem_range]
  constructor
  · rintro ⟨k, hk, rfl⟩; omega
  · rintro ⟨h1, h2⟩; exact ⟨(x - a).toNat, by omega, by omega⟩
theorem seq_lay {a b : Int} (h : a ≤ b) : layT (seqT a b) 0 b = seqT a (b + 1) := by
  have e : (b + 1 - a).toNat = (b - a).toNat + 1 := by omega
  unfold layT
  rw [seq_row0]
  show (_ :: _ : Tab) = _
  unfold seqT
  rw [e, List.range_succ, List.map_append]
  congr 2
  simp; omega
theorem seq_push {i : Int} (h0 : 0 ≤ i) (h1 : i < 64) : pushT (seqT 100 (i + 100)) 0 (i + 100) 64 = seqT 100 (i + 101) := by
  have hk : hasB (seqT 100 (i + 100)) (i + 100) = false := by
    cases hb : hasB (seqT 100 (i + 100)) (i + 100)
    · rfl
    · have := seq_has.1 hb; omega
  rw [(push_ok (by omega) (by rw [seq_len]; decide) (by omega) hk (by rw [seq_l0 (by omega)]; omega)).2, seq_lay (by omega)]
  congr 1; omega
theorem seq_long {a b : Int} (h : a ≤ b) : bestF 1 (seqT a b) 0 0 = 0 := by
  rw [long_no (by omega) (by rw [seq_len]; decide) (by omega), long_no (by omega) (by rw [seq_len]; decide) (by rw [show (0 : Int) + 1 = 1 from rfl, seq_l1, seq_l0 h]; omega), best_end (by rw [seq_len]; decide)]
theorem seq_cut0 {a b : Int} (h : a < b) : cutT (seqT a b) 0 0 = seqT (a + 1) b := by
  unfold cutT
  rw [seq_row0]
  show (_ :: _ : Tab) = _
  unfold seqT
  have e : (b - a).toNat = (b - (a + 1)).toNat + 1 := by omega
  rw [e, List.range_succ_eq_map]
  simp only [List.map_cons, List.map_map, Int.toNat_zero, List.eraseIdx_cons_zero]
  congr 1
  exact List.map_congr_left fun k _ => by simp; omega
theorem seq_cutL {a b : Int} (h : a < b) : cutT (seqT a b) 0 (b - a - 1) = seqT a (b - 1) := by
  unfold cutT
  rw [seq_row0]
  show (_ :: _ : Tab) = _
  unfold seqT
  have e : (b - a).toNat = (b - 1 - a).toNat + 1 := by omega
  have e2 : (b - a - 1).toNat = (b - 1 - a).toNat := by omega
  rw [e2]
  conv => lhs; rw [e, List.range_succ, List.map_append, List.map_cons, List.map_nil]
  congr 1
  rw [List.eraseIdx_append_of_length_le (by simp)]
  simp
theorem seq_get {a b : Int} {k : Nat} (h : k < (b - a).toNat) : (rowL (seqT a b) 0).getD k 0 = a + k := by
  rw [seq_row0, List.getD_eq_getElem?_getD]
  simp [h]
theorem seq_pop1 {a b : Int} (h : a < b) : popF (seqT a b) 1 = 0 ∧ popX (seqT a b) 1 = b - 1 ∧ popT (seqT a b) 1 = seqT a (b - 1) := by
  obtain ⟨p1, p2, p3⟩ := pop_long (T := seqT a b) (c := 1) (by rw [seq_l1]; omega)
  have hl := seq_long (a := a) (b := b) (by omega)
  rw [hl] at p1 p2 p3
  rw [seq_l0 (by omega)] at p2 p3
  rw [p1, p2, p3, seq_cutL h, seq_get (by omega)]
  exact ⟨rfl, by omega, rfl⟩
theorem seq_pop0 {a b : Int} (h : a < b) : popF (seqT a b) 0 = 0 ∧ popX (seqT a b) 0 = a ∧ popT (seqT a b) 0 = seqT (a + 1) b := by
  obtain ⟨p1, p2, p3⟩ := pop_own (T := seqT a b) (c := 0) (by rw [seq_l0 (by omega)]; omega)
  rw [p1, p2, p3, seq_cut0 h, seq_get (by simp; omega)]
  exact ⟨rfl, by simp, rfl⟩
theorem seq_any {a b : Int} (h : a < b) : anyB (seqT a b) = true := any_of (c := 0) (by omega) (by rw [seq_len]; decide) (by rw [seq_l0 (by omega)]; omega)
theorem seq_total {a b : Int} (h : a ≤ b) : total (seqT a b) = b - a := by rw [total_eq]; simp [seqT]; omega
theorem seq_start (a : Int) : ([[], []] : Tab) = seqT a a := by simp [seqT]

/-! ### which ids there are -/
theorem cut_flat (h0 : 0 ≤ c) (h1 : c < T.length) (hi : 0 ≤ i) (hr : i < lenR T c) : T.flatten.Perm ((rowL T c).getD i.toNat 0 :: (cutT T c i).flatten) := by
  obtain ⟨A, B, e, hA⟩ := split h0 h1
  have hrl : i.toNat < (rowL T c).length := by unfold lenR at hr; omega
  generalize hr' : rowL T c = r at *
  have el : cutT T c i = A ++ r.eraseIdx i.toNat :: B := by rw [cutT, hr', e, set_mid hA]
  have hp : (pairs 0 T).Perm ([r.getD i.toNat 0, c] :: pairs 0 (cutT T c i)) := by
    rw [el, ← hA]
    rw [show pairs 0 T = pairs 0 (A ++ r :: B) by rw [← e]]
    exact cut_pairs hrl
  exact keys_cons hp
theorem lay_flat (h0 : 0 ≤ c) (h1 : c < T.length) : (layT T c id).flatten.Perm (id :: T.flatten) := by
  obtain ⟨A, B, e, hA⟩ := split h0 h1
  generalize hr' : rowL T c = r at *
  have el : layT T c id = A ++ (r ++ [id]) :: B := by rw [layT, hr', e, set_mid hA]
  have hp : (pairs 0 (layT T c id)).Perm ([id, c] :: pairs 0 T) := by
    rw [el, ← hA]
    rw [show pairs 0 T = pairs 0 (A ++ r :: B) by rw [← e]]
    exact lay_pairs
  exact keys_cons hp
theorem step_flat (hT : 1 ≤ (T.length : Int)) (hg : ¬ lenR T (bestF 1 T 0 0) < lenR T (bestF 0 T 0 0) + 2) : (evStep T).flatten.Perm T.flatten := by
  obtain ⟨l0, l1⟩ := long_in hT
  obtain ⟨s0, s1⟩ := short_in hT
  have hp := lenR_pos T (bestF 0 T 0 0)
  exact (lay_flat s0 (by rw [cutT_len]; exact s1)).trans (cut_flat l0 l1 (by omega) (by omega)).symm
theorem go_flat : ∀ (n : Nat) (T : Tab), 1 ≤ (T.length : Int) → (evGo n T).2.flatten.Perm T.flatten
  | 0, T, _ => .refl _
  | n + 1, T, hT => by
    rw [evGo]
    cases hb : evOK T
    · exact (go_flat n _ (by rw [evStep_len]; exact hT)).trans (step_flat hT (of_decide_eq_false hb))
    · exact .refl _
theorem even_flat (hT : 1 ≤ (T.length : Int)) : (evenT T).flatten.Perm T.flatten := go_flat _ T hT
theorem total_perm {A B : Tab} (h : A.flatten.Perm B.flatten) : total A = total B := by rw [total_eq, total_eq, h.length_eq]
theorem has_perm {A B : Tab} (h : A.flatten.Perm B.flatten) (x : Int) : hasB A x = hasB B x := by
  rw [Bool.eq_iff_iff, has_iff, has_iff, h.mem_iff]
theorem any_total : anyB T = false → total T = 0 := by
  intro h
  rw [total_eq]
  have : T.flatten = [] := by
    rw [List.flatten_eq_nil_iff]
    intro r hr
    have := List.any_eq_false.1 h r hr
    simpa using this
  rw [this]; rfl
theorem any_pos : anyB T = true → 0 < total T := by
  intro h
  obtain ⟨r, hr, hne⟩ := List.any_eq_true.1 h
  rw [total_eq]
  cases r with
  | nil => simp at hne
  | cons y r => have := List.length_pos_of_mem (List.mem_flatten.2 ⟨_, hr, List.mem_cons_self (a := y)⟩); omega
theorem inB_iff : inB T IN = true ↔ (∀ k : Nat, k < 64 → ((IN.getD k []).getD 0 0 = 1 ↔ hasB T k = true)) ∧ ∀ x ∈ T.flatten, 0 ≤ x ∧ x ≤ 63 := by
  unfold inB
  rw [Bool.and_eq_true, List.all_eq_true, List.all_eq_true]
  constructor
  · rintro ⟨h1, h2⟩
    refine ⟨fun k hk => ?_, fun x hx => ?_⟩
    · have := eq_of_beq (h1 k (List.mem_range.2 hk))
      rw [← this, decide_eq_true_eq]
    · obtain ⟨r, hr, hxr⟩ := List.mem_flatten.1 hx
      have := List.all_eq_true.1 (h2 r hr) x hxr
      simpa using this
  · rintro ⟨h1, h2⟩
    refine ⟨fun k hk => ?_, fun r hr => List.all_eq_true.2 fun x hx => ?_⟩
    · have := h1 k (List.mem_range.1 hk)
      rw [beq_iff_eq]
      cases hb : hasB T k
      · rw [hb] at this; exact decide_eq_false fun e => by have := this.1 e; cases this
      · exact decide_eq_true (this.2 hb)
    · have := h2 x (List.mem_flatten.2 ⟨r, hr, hx⟩)
      simpa using this
theorem getD_mod (f : List Int → List Int) {n k : Nat} (hk : k < IN.length) : (IN.modify n f).getD k [] = if n = k then f (IN.getD k []) else IN.getD k [] := by
  rw [List.getD_eq_getElem?_getD, List.getElem?_modify, List.getElem?_eq_getElem hk, List.getD_eq_getElem?_getD, List.getElem?_eq_getElem hk]
  split <;> simp
theorem in_at (h : inB T IN = true) (h0 : 0 ≤ x) (h1 : x ≤ 63) : (IN.getD x.toNat []).getD 0 0 = 1 ↔ hasB T x = true := by
  have := (inB_iff.1 h).1 x.toNat (by omega)
  rwa [Int.toNat_of_nonneg h0] at this
theorem in_01 (hr : ∀ r ∈ IN, okRow [.b] r) (h : (IN.length : Int) = 64) (h0 : 0 ≤ x) (h1 : x ≤ 63) : (IN.getD x.toNat []).getD 0 0 = 0 ∨ (IN.getD x.toNat []).getD 0 0 = 1 := by
  have hm : IN.getD x.toNat [] ∈ IN := by
    rw [List.getD_eq_getElem?_getD, List.getElem?_eq_getElem (by omega)]; exact List.getElem_mem _
  have := hr _ hm
  revert this
  cases IN.getD x.toNat [] with
  | nil => intro h; simp [okRow] at h
  | cons y r => cases r with
    | nil => intro h; simpa [okRow, okCell] using h
    | cons z r => intro h; simp [okRow] at h
theorem in_set (h : (IN.length : Int) = 64) (hr : ∀ r ∈ IN, okRow [.b] r) (h0 : 0 ≤ x) (h1 : x ≤ 63) (v : Int) (k : Nat) (hk : k < 64) : ((IN.modify x.toNat fun row => row.set 0 v).getD k []).getD 0 0 = if k = x.toNat then v else (IN.getD k []).getD 0 0 := by
  rw [getD_mod _ (by omega)]
  by_cases e : x.toNat = k
  · rw [if_pos e, if_pos e.symm]
    have hm : IN.getD k [] ∈ IN := by
      rw [List.getD_eq_getElem?_getD, List.getElem?_eq_getElem (by omega)]; exact List.getElem_mem _
    have := hr _ hm
    revert this
    cases IN.getD k [] with
    | nil => intro h; simp [okRow] at h
    | cons y r => intro _; rfl
  · rw [if_neg e, if_neg fun h => e h.symm]
/-- What becomes of the mark of one id. -/
theorem in_new {T' : Tab} (hi : inB T IN = true) (h : (IN.length : Int) = 64) (hr : ∀ r ∈ IN, okRow [.b] r) (h0 : 0 ≤ x) (h1 : x ≤ 63) {v : Int} (hx : v = 1 ↔ hasB T' x = true)
    (ho : ∀ y, y ≠ x → (y ∈ T'.flatten ↔ y ∈ T.flatten)) : inB T' (IN.modify x.toNat fun row => row.set 0 v) = true := by
  obtain ⟨a1, a2⟩ := inB_iff.1 hi
  refine inB_iff.2 ⟨fun k hk => ?_, fun y hy => ?_⟩
  · rw [in_set h hr h0 h1 v k hk]
    split
    · rename_i e
      rw [hx, show ((k : Nat) : Int) = x by omega]
    · rw [a1 k hk, has_iff, has_iff, ho _ (by omega)]
  · by_cases e : y = x
    · subst e; exact ⟨h0, h1⟩
    · exact a2 y ((ho y e).1 hy)
theorem in_even (hi : inB T IN = true) (hT : 1 ≤ (T.length : Int)) : inB (evenT T) IN = true := by
  have hp := even_flat hT
  obtain ⟨a1, a2⟩ := inB_iff.1 hi
  exact inB_iff.2 ⟨fun k hk => by rw [a1 k hk, has_perm hp], fun x hx => a2 x (hp.mem_iff.1 hx)⟩
theorem pre_iff : preB T IN id many = true ↔ 0 ≤ id ∧ id ≤ 63 ∧ (IN.getD id.toNat []).getD 0 0 = 0 ∧ inB T (IN.modify id.toNat fun row => row.set 0 1) = true ∧ total T = many + 1 := by
  simp only [preB, Bool.and_eq_true, decide_eq_true_eq]
theorem pre_push (hi : inB T IN = true) (h : (IN.length : Int) = 64) (hr : ∀ r ∈ IN, okRow [.b] r) (h0 : 0 ≤ id) (h1 : id ≤ 63) (he : pushE T c id rm = 0) (hm : many = total T) : preB (pushT T c id rm) IN id many = true := by
  have hc : ¬ (c < 0 ∨ (T.length : Int) ≤ c) := fun hc => by rw [push_range hc] at he; cases he
  have hk : hasB T id = false := by
    cases hb : hasB T id
    · rfl
    · rw [push_twice (by omega) (by omega) (by omega) hb] at he; cases he
  have hp := lay_flat (T := T) (c := c) (id := id) (by omega) (by omega)
  rw [pushT, if_pos he]
  refine pre_iff.2 ⟨h0, h1, ?_, in_new hi h hr h0 h1 ⟨fun _ => ?_, fun _ => rfl⟩ fun y hy => ?_, ?_⟩
  · rcases in_01 hr h h0 h1 with h2 | h2
    · exact h2
    · have := (in_at hi h0 h1).1 h2; rw [hk] at this; cases this
  · rw [has_iff, hp.mem_iff]; exact List.mem_cons_self ..
  · rw [hp.mem_iff, List.mem_cons]; exact ⟨fun h => h.resolve_left hy, .inr⟩
  · rw [hm, total_eq, total_eq, hp.length_eq]; simp
/-- One goes. -/
theorem in_cut {T' : Tab} (hi : inB T IN = true) (h : (IN.length : Int) = 64) (hr : ∀ r ∈ IN, okRow [.b] r) (hp : T.flatten.Perm (x :: T'.flatten)) (hn : T.flatten.Nodup) :
    inB T' (IN.modify x.toNat fun row => row.set 0 0) = true ∧ 0 ≤ x ∧ x ≤ 63 ∧ hasB T x = true ∧ (IN.getD x.toNat []).getD 0 0 = 1 ∧ total T' = total T - 1 := by
  have hx : hasB T x = true := has_iff.2 (hp.mem_iff.2 (List.mem_cons_self ..))
  obtain ⟨h0, h1⟩ := (inB_iff.1 hi).2 x (has_iff.1 hx)
  have hn' := List.nodup_cons.1 (hp.nodup_iff.1 hn)
  refine ⟨in_new hi h hr h0 h1 ⟨fun e => (by cases e), fun e => absurd (has_iff.1 e) hn'.1⟩ fun y hy => ?_, h0, h1, hx, (in_at hi h0 h1).2 hx, ?_⟩
  · rw [hp.mem_iff, List.mem_cons]; exact ⟨.inr, fun h => h.resolve_left hy⟩
  · rw [total_eq, total_eq, hp.length_eq]; simp
theorem pop_flat (hT : 1 ≤ (T.length : Int)) (h0 : 0 ≤ c) (h1 : c < T.length) (ha : anyB T = true) : T.flatten.Perm (popX T c :: (popT T c).flatten) := by
  by_cases hl : 0 < lenR T c
  · obtain ⟨_, p2, p3⟩ := pop_own hl
    rw [p2, p3]
    exact cut_flat h0 h1 (by omega) (by omega)
  · obtain ⟨_, p2, p3⟩ := pop_long hl
    obtain ⟨l0, l1⟩ := long_in hT
    have hp := lenR_pos T (bestF 1 T 0 0)
    have : lenR T (bestF 1 T 0 0) ≠ 0 := fun e => by rw [any_not hT e] at ha; cases ha
    rw [p2, p3]
    exact cut_flat l0 l1 (by omega) (by omega)
theorem drop_flat (hk : hasB T id = true) : T.flatten.Perm (id :: (dropT T id).flatten) := by
  obtain ⟨c0, c1, _⟩ := cpu_row hk
  obtain ⟨a0, a1, a2⟩ := at_row hk
  rw [drop_has hk]
  have := cut_flat c0 c1 a0 a1
  rwa [a2] at this
theorem in_same (hi : inB T IN = true) (h : (IN.length : Int) = 64) (hr : ∀ r ∈ IN, okRow [.b] r) (h0 : 0 ≤ x) (h1 : x ≤ 63) (hk : hasB T x = false) : inB T (IN.modify x.toNat fun row => row.set 0 0) = true :=
  in_new hi h hr h0 h1 ⟨fun e => (by cases e), fun e => (by rw [hk] at e; cases e)⟩ fun _ _ => .rfl
theorem sum_step (h0 : 0 ≤ c) (h1 : c < T.length) : sumF T c = lenR T c + sumF T (c + 1) := by
  have e : T.drop c.toNat = rowL T c :: T.drop (c + 1).toNat := by
    rw [show (c + 1).toNat = c.toNat + 1 by omega, List.drop_eq_getElem_cons (by omega)]
    congr 1
    rw [rowL, List.getD_eq_getElem?_getD, List.getElem?_eq_getElem (by omega)]; rfl
  unfold sumF lenR
  rw [e]
  generalize T.drop (c + 1).toNat = L
  simp [total]
theorem sum_end (h1 : ¬ c < T.length) : sumF T c = 0 := by
  unfold sumF
  rw [List.drop_of_length_le (by omega)]; rfl
theorem sum_pos (T : Tab) (c : Int) : 0 ≤ sumF T c := by unfold sumF total; omega
theorem sum_all (T : Tab) : sumF T 0 = total T := rfl
theorem total_new (n : Int) : total (List.replicate n.toNat []) = 0 := by simp [total]
theorem in_new0 (n : Int) : inB (List.replicate n.toNat []) (List.replicate 64 [0]) = true := by
  refine inB_iff.2 ⟨fun k hk => ⟨fun h => ?_, fun h => ?_⟩, fun x hx => ?_⟩
  · have e : (List.replicate 64 [(0 : Int)]).getD k [] = [0] := by rw [List.getD_eq_getElem?_getD, List.getElem?_replicate, if_pos hk]; rfl
    rw [e] at h; simp at h
  · rw [has_iff] at h; simp at h
  · simp at hx

/-! ### Even -/
theorem hds_step (h0 : 0 ≤ c) (h1 : c < T.length) : hdsT T (c + 1) = hdsT T c ++ ((rowL T c).head?.map fun x => [x]).toList := by
  unfold hdsT
  rw [show (c + 1).toNat = c.toNat + 1 by omega, List.take_add_one, List.getElem?_eq_getElem (by omega)]
  have : rowL T c = T[c.toNat] := by rw [rowL, List.getD_eq_getElem?_getD, List.getElem?_eq_getElem (by omega)]; rfl
  rw [this, List.filterMap_append]
  cases T[c.toNat] <;> simp
theorem hds_yes (h0 : 0 ≤ c) (h1 : c < T.length) (hl : 0 < lenR T c) : hdsT T (c + 1) = hdsT T c ++ [[(rowL T c).getD (0 : Int).toNat 0]] := by
  rw [hds_step h0 h1]
  unfold lenR at hl
  cases hr : rowL T c
  · rw [hr] at hl; simp at hl
  · rfl
theorem hds_no (h0 : 0 ≤ c) (h1 : c < T.length) (hl : ¬ 0 < lenR T c) : hdsT T (c + 1) = hdsT T c := by
  rw [hds_step h0 h1]
  unfold lenR at hl
  cases hr : rowL T c
  · simp
  · rw [hr] at hl; simp at hl
theorem hds_len (T : Tab) (h0 : 0 ≤ c) : ((hdsT T c).length : Int) ≤ c := by
  unfold hdsT
  have h1 := List.length_filterMap_le (fun r : List Int => r.head?.map fun x => [x]) (T.take c.toNat)
  have h2 := List.length_take_le c.toNat T
  omega
theorem hds_0 (T : Tab) : hdsT T 0 = [] := rfl
theorem low_step (h0 : 0 ≤ c) (h1 : c < T.length) : lowF T c x = lowF T (c + 1) (min x (lenR T c)) := by
  unfold lowF
  rw [show (c + 1).toNat = c.toNat + 1 by omega, List.drop_eq_getElem_cons (by omega), List.foldl_cons]
  have : lenR T c = (T[c.toNat].length : Int) := by rw [lenR, rowL, List.getD_eq_getElem?_getD, List.getElem?_eq_getElem (by omega)]; rfl
  rw [this]
theorem high_step (h0 : 0 ≤ c) (h1 : c < T.length) : highF T c x = highF T (c + 1) (max x (lenR T c)) := by
  unfold highF
  rw [show (c + 1).toNat = c.toNat + 1 by omega, List.drop_eq_getElem_cons (by omega), List.foldl_cons]
  have : lenR T c = (T[c.toNat].length : Int) := by rw [lenR, rowL, List.getD_eq_getElem?_getD, List.getElem?_eq_getElem (by omega)]; rfl
  rw [this]
theorem low_end (h1 : ¬ c < T.length) : lowF T c x = x := by unfold lowF; rw [List.drop_of_length_le (by omega)]; rfl
theorem high_end (h1 : ¬ c < T.length) : highF T c x = x := by unfold highF; rw [List.drop_of_length_le (by omega)]; rfl
theorem low_ge {m : Int} : ∀ {L : Tab} {x : Int}, m ≤ x → (∀ r ∈ L, m ≤ (r.length : Int)) → m ≤ L.foldl (fun m r => min m (r.length : Int)) x
  | [], x, h, _ => h
  | r :: L, x, h, hL => low_ge (L := L) (by have := hL r (List.mem_cons_self ..); show m ≤ min x _; omega) fun s hs => hL s (List.mem_cons_of_mem _ hs)
theorem low_le : ∀ {L : Tab} {x : Int}, L.foldl (fun m r => min m (r.length : Int)) x ≤ x
  | [], x => Int.le_refl _
  | r :: L, x => Int.le_trans (low_le (L := L)) (by show min x _ ≤ x; omega)
theorem high_le {m : Int} : ∀ {L : Tab} {x : Int}, x ≤ m → (∀ r ∈ L, (r.length : Int) ≤ m) → L.foldl (fun m r => max m (r.length : Int)) x ≤ m
  | [], x, h, _ => h
  | r :: L, x, h, hL => high_le (L := L) (by have := hL r (List.mem_cons_self ..); show max x _ ≤ m; omega) fun s hs => hL s (List.mem_cons_of_mem _ hs)
theorem row_len {r : List Int} (hr : r ∈ T) : ∃ c, 0 ≤ c ∧ c < (T.length : Int) ∧ lenR T c = (r.length : Int) ∧ rowL T c = r := by
  obtain ⟨n, hn, rfl⟩ := List.getElem_of_mem hr
  have e : rowL T n = T[n] := by rw [rowL, Int.toNat_natCast, List.getD_eq_getElem?_getD, List.getElem?_eq_getElem hn]; rfl
  exact ⟨n, by omega, by omega, by rw [lenR, e], e⟩
theorem go_ok : ∀ (n : Nat) (T : Tab), 1 ≤ (T.length : Int) → sq T ≤ n → evOK (evGo n T).2 = true
  | 0, T, hT, h => by
    show evOK T = true
    cases hb : evOK T
    · have := sq_step hT (of_decide_eq_false hb); have := sq_pos (evStep T); omega
    · rfl
  | n + 1, T, hT, h => by
    rw [evGo]
    cases hb : evOK T
    · have := sq_step hT (of_decide_eq_false hb)
      exact go_ok n _ (by rw [evStep_len]; exact hT) (by omega)
    · exact hb
theorem even_ok (hT : 1 ≤ (T.length : Int)) : lenR (evenT T) (bestF 1 (evenT T) 0 0) < lenR (evenT T) (bestF 0 (evenT T) 0 0) + 2 :=
  of_decide_eq_true (go_ok _ T hT (by have := sq_pos T; omega))
theorem even_again (hT : 1 ≤ (T.length : Int)) : evenN (evenT T) = 0 := (even_end (even_ok hT)).1
theorem even_high (hT : 1 ≤ (T.length : Int)) (hi : invB (evenT T) M 64 = true) : highF (evenT T) 0 0 ≤ lowF (evenT T) 0 1000 + 1 ∧ lowF (evenT T) 0 1000 ≤ 1000 ∧ 0 ≤ lowF (evenT T) 0 1000 := by
  have hT' : 1 ≤ ((evenT T).length : Int) := by rw [evenT_len]; exact hT
  have hg := even_ok hT
  obtain ⟨s0, s1⟩ := short_in hT'
  obtain ⟨l0, l1⟩ := long_in hT'
  have hs := inv_row hi s0 s1
  have hp := lenR_pos (evenT T) (bestF 0 (evenT T) 0 0)
  have hp' := lenR_pos (evenT T) (bestF 1 (evenT T) 0 0)
  have a1 : highF (evenT T) 0 0 ≤ lenR (evenT T) (bestF 1 (evenT T) 0 0) := high_le hp' fun r hr => by
    obtain ⟨c, c0, c1, e, _⟩ := row_len (T := evenT T) hr
    rw [← e]; exact long_max c0 c1
  have a2 : lenR (evenT T) (bestF 0 (evenT T) 0 0) ≤ lowF (evenT T) 0 1000 := low_ge (by omega) fun r hr => by
    obtain ⟨c, c0, c1, e, _⟩ := row_len (T := evenT T) hr
    rw [← e]; exact short_min c0 c1
  have a3 : lowF (evenT T) 0 1000 ≤ 1000 := low_le
  omega
/-- Whose first one it is. -/
def headB (T : Tab) (x : Int) : Prop := ∃ c, 0 ≤ c ∧ c < (T.length : Int) ∧ (rowL T c).head? = some x
theorem head_step (hT : 1 ≤ (T.length : Int)) (hg : ¬ lenR T (bestF 1 T 0 0) < lenR T (bestF 0 T 0 0) + 2) (h : headB T x) : headB (evStep T) x := by
  obtain ⟨c, c0, c1, hx⟩ := h
  obtain ⟨l0, l1⟩ := long_in hT
  obtain ⟨s0, s1⟩ := short_in hT
  have hp := lenR_pos T (bestF 0 T 0 0)
  refine ⟨c, c0, by rw [evStep_len]; exact c1, ?_⟩
  have h1 : (rowL (cutT T (bestF 1 T 0 0) (lenR T (bestF 1 T 0 0) - 1)) c).head? = some x := by
    rw [row_cut l0 l1 c0]
    split
    · rename_i e
      rw [e] at hx
      unfold lenR at hp hg ⊢
      cases hr : rowL T (bestF 1 T 0 0) with
      | nil => rw [hr] at hx; cases hx
      | cons y r =>
        rw [hr] at hx hg
        simp only [List.length_cons] at hg ⊢
        obtain ⟨n, hn⟩ : ∃ n, (((r.length + 1 : Nat) : Int) - 1).toNat = n + 1 := ⟨r.length - 1, by omega⟩
        rw [hn, List.eraseIdx_cons_succ]; exact hx
    · exact hx
  unfold evStep
  rw [row_lay s0 (by rw [cutT_len]; exact s1) c0]
  split
  · rename_i e
    rw [e] at h1
    cases hr : rowL (cutT T (bestF 1 T 0 0) (lenR T (bestF 1 T 0 0) - 1)) (bestF 0 T 0 0) with
    | nil => rw [hr] at h1; cases h1
    | cons y r => rw [hr] at h1; exact h1
  · exact h1
theorem head_go : ∀ (n : Nat) (T : Tab), 1 ≤ (T.length : Int) → headB T x → headB (evGo n T).2 x
  | 0, T, _, h => h
  | n + 1, T, hT, h => by
    rw [evGo]
    cases hb : evOK T
    · exact head_go n _ (by rw [evStep_len]; exact hT) (head_step hT (of_decide_eq_false hb) h)
    · exact h
theorem row_unique (hn : T.flatten.Nodup) {c c' : Int} (h0 : 0 ≤ c) (h1 : c < T.length) (h0' : 0 ≤ c') (h1' : c' < T.length) (hx : x ∈ rowL T c) (hx' : x ∈ rowL T c') : c = c' := by
  have hp : ((pairs 0 T).map hdK).Nodup := by rw [pairs_keys]; exact hn
  have m1 : [x, c] ∈ pairs 0 T := pairs_mem.2 ⟨c, x, by omega, by omega, by simpa using hx, rfl⟩
  have m2 : [x, c'] ∈ pairs 0 T := pairs_mem.2 ⟨c', x, by omega, by omega, by simpa using hx', rfl⟩
  obtain ⟨A, B, e⟩ := List.append_of_mem m1
  rw [e] at hp m2
  rw [List.map_append, List.map_cons, List.nodup_append] at hp
  obtain ⟨_, p2, p3⟩ := hp
  rcases List.mem_append.1 m2 with m | m
  · exact absurd rfl (p3 x (List.mem_map_of_mem (f := hdK) m) x (List.mem_cons_self ..))
  · rcases List.mem_cons.1 m with m | m
    · simp only [List.cons.injEq, and_true, true_and] at m; exact m.symm
    · exact absurd (List.mem_map_of_mem (f := hdK) m) (List.nodup_cons.1 p2).1
theorem head_at (hn : T.flatten.Nodup) (h : headB T x) : hasB T x = true ∧ atF T x = 0 := by
  obtain ⟨c, c0, c1, hx⟩ := h
  have hm : x ∈ rowL T c := List.mem_of_head? hx
  have hk : hasB T x = true := has_iff.2 (List.mem_flatten.2 ⟨_, rowL_mem c0 c1, hm⟩)
  obtain ⟨k0, k1, k2⟩ := cpu_row hk
  have e := row_unique hn c0 c1 k0 k1 hm k2
  refine ⟨hk, ?_⟩
  unfold atF
  rw [← e]
  cases hr : rowL T c with
  | nil => rw [hr] at hx; cases hx
  | cons y r =>
    rw [hr] at hx
    simp only [List.head?_cons, Option.some.injEq] at hx
    rw [hx]; simp
theorem hds_head {r : List Int} (h0 : 0 ≤ c) (hr : r ∈ hdsT T c) : headB T (hdK r) := by
  obtain ⟨s, hs, hsr⟩ := List.mem_filterMap.1 hr
  simp only [Option.map_eq_some_iff] at hsr
  obtain ⟨y, hy, rfl⟩ := hsr
  obtain ⟨k, k0, k1, _, e⟩ := row_len (List.mem_of_mem_take hs)
  exact ⟨k, k0, k1, by rw [e]; exact hy⟩
theorem hds_ok (hT : 1 ≤ (T.length : Int)) (h0 : 0 ≤ c) (hi : invB (evenT T) M rm = true) : hdOK (evenT T) (hdsT T c) = true := by
  refine List.all_eq_true.2 fun r hr => ?_
  have := head_at (inv_iff.1 hi).2.1 (head_go _ T hT (hds_head h0 hr))
  rw [Bool.and_eq_true, decide_eq_true_eq]
  exact this
theorem hd_at {H : Tab} (h : hdOK T H = true) (h0 : 0 ≤ i) (h1 : i < H.length) : hasB T ((H.getD i.toNat []).getD 0 0) = true ∧ atF T ((H.getD i.toNat []).getD 0 0) = 0 := by
  have hm : H.getD i.toNat [] ∈ H := by rw [List.getD_eq_getElem?_getD, List.getElem?_eq_getElem (by omega)]; exact List.getElem_mem _
  have := List.all_eq_true.1 h _ hm
  rw [Bool.and_eq_true, decide_eq_true_eq] at this
  have e : hdK (H.getD i.toNat []) = (H.getD i.toNat []).getD 0 0 := by cases H.getD i.toNat [] <;> rfl
  rwa [e] at this
theorem wrap_in {n : Int} (h0 : -9223372036854775808 ≤ n) (h1 : n ≤ 9223372036854775807) : IntKind.i64.wrap n = n := by
  simp only [IntKind.wrap]
  unfold IntKind.signed IntKind.bits
  simp
  omega
end Go.SF.C17
