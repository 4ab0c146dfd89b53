/- Chapter 17: lemmas in plain Lean, with no program in sight. Chapter 17: lemmas in plain Lean on the longest queue, places, Even. Chapter 17: lemmas in plain Lean for the laws. -/
import Derived.Test.YtnhdohhhgfdhfaaPQ
namespace Go.SF.C17
open Go.SF
set_option linter.unusedVariables false
set_option linter.unusedSimpArgs false
variable {T M : Tab} {c id rm i b : Int}

theorem rowT_len (T : Tab) (c : Int) : (rowT T c).length = (rowL T c).length := by simp [rowT]
theorem lenR_rowT (T : Tab) (c : Int) : ((rowT T c).length : Int) = lenR T c := by simp [rowT, lenR]
theorem hd_one (r : List Int) : (r.map fun x => [x]).map hdK = r := by
  rw [List.map_map]; exact (List.map_congr_left (g := id) fun a _ => rfl).trans (List.map_id _)
theorem lay_eq (T : Tab) (c id : Int) : setT T c (rowT T c ++ [[id]]) = layT T c id := by
  unfold setT layT rowT
  rw [List.map_append, hd_one]; rfl
theorem cut_eq (T : Tab) (c i : Int) (h : 0 ≤ i) : setT T c (List.take i.toNat (rowT T c) ++ List.drop (i + 1).toNat (rowT T c)) = cutT T c i := by
  unfold setT cutT rowT
  rw [← List.map_take, ← List.map_drop, ← List.map_append, hd_one, List.eraseIdx_eq_take_drop_succ]
  congr 3; omega
theorem layT_len (T : Tab) (c id : Int) : (layT T c id).length = T.length := by simp [layT]
theorem cutT_len (T : Tab) (c i : Int) : (cutT T c i).length = T.length := by simp [cutT]
theorem rowL_mem (h0 : 0 ≤ c) (h1 : c < T.length) : rowL T c ∈ T := by
  rw [rowL, List.getD_eq_getElem?_getD, List.getElem?_eq_getElem (by omega)]; exact List.getElem_mem _
/-- A table about one of its rows. -/
theorem split (h0 : 0 ≤ c) (h1 : c < T.length) : ∃ A B, T = A ++ rowL T c :: B ∧ (A.length : Int) = c := by
  refine ⟨T.take c.toNat, T.drop (c.toNat + 1), ?_, by rw [List.length_take]; omega⟩
  have : T[c.toNat]? = some (rowL T c) := by rw [rowL, List.getD_eq_getElem?_getD, List.getElem?_eq_getElem (by omega)]; rfl
  conv => lhs; rw [← List.take_append_drop c.toNat T]
  rw [List.drop_eq_getElem_cons (by omega)]
  congr 2
  rw [List.getElem?_eq_getElem (by omega)] at this
  simpa using this
theorem set_mid {A B : Tab} {r r' : List Int} (h : (A.length : Int) = c) : (A ++ r :: B).set c.toNat r' = A ++ r' :: B := by
  rw [show c.toNat = A.length by omega, List.set_append_right _ _ (Nat.le_refl _)]; simp
theorem pairs_app : ∀ (A B : Tab) (c : Int), pairs c (A ++ B) = pairs c A ++ pairs (c + A.length) B
  | [], B, c => by simp [pairs]
  | r :: A, B, c => by
    simp only [List.cons_append, pairs, pairs_app A B (c + 1), List.append_assoc]
    congr 3; simp; omega
theorem pairs_keys : ∀ (T : Tab) (c : Int), (pairs c T).map hdK = T.flatten
  | [], c => rfl
  | r :: T, c => by
    simp only [pairs, List.map_append, List.map_map, pairs_keys T (c + 1), List.flatten_cons]
    congr 1
    exact (List.map_congr_left (g := _root_.id) fun a _ => rfl).trans (List.map_id _)
theorem pairs_mem : ∀ {T : Tab} {c : Int} {r : List Int}, r ∈ pairs c T ↔ ∃ k x, c ≤ k ∧ k < c + T.length ∧ x ∈ rowL T (k - c) ∧ r = [x, k]
  | [], c, r => by
    simp only [pairs, List.not_mem_nil, List.length_nil, false_iff]
    rintro ⟨k, x, h1, h2, _⟩; simp at h2; omega
  | s :: T, c, r => by
    simp only [pairs, List.mem_append, List.mem_map, pairs_mem (T := T), List.length_cons]
    constructor
    · rintro (⟨x, hx, rfl⟩ | ⟨k, x, h1, h2, h3, rfl⟩)
      · exact ⟨c, x, by omega, by omega, by simpa [rowL] using hx, rfl⟩
      · refine ⟨k, x, by omega, by omega, ?_, rfl⟩
        have e : (k - c).toNat = (k - (c + 1)).toNat + 1 := by omega
        simpa [rowL, e] using h3
    · rintro ⟨k, x, h1, h2, h3, rfl⟩
      by_cases e : k = c
      · subst e; exact .inl ⟨x, by simpa [rowL] using h3, rfl⟩
      · refine .inr ⟨k, x, by omega, by omega, ?_, rfl⟩
        have e : (k - c).toNat = (k - (c + 1)).toNat + 1 := by omega
        simpa [rowL, e] using h3

theorem inv_iff : invB T M rm = true ↔ (∀ r ∈ T, (r.length : Int) ≤ rm) ∧ T.flatten.Nodup ∧ M.Perm (pairs 0 T) := by
  simp only [invB, Bool.and_eq_true, List.all_eq_true, decide_eq_true_eq, List.isPerm_iff]
theorem has_iff : hasB T id = true ↔ id ∈ T.flatten := by
  simp only [hasB, List.any_eq_true, List.contains_iff_mem, List.mem_flatten]
theorem inv_keys (h : invB T M rm = true) : (M.map hdK).Perm T.flatten := by
  have := (inv_iff.1 h).2.2.map hdK
  rwa [pairs_keys] at this
theorem inv_row (h : invB T M rm = true) (h0 : 0 ≤ c) (h1 : c < T.length) : lenR T c ≤ rm := (inv_iff.1 h).1 _ (rowL_mem h0 h1)
theorem lenR_pos (T : Tab) (c : Int) : 0 ≤ lenR T c := by unfold lenR; omega
/-- What is found. -/
theorem find_none (h : invB T M rm = true) (hk : hasB T id = false) : findK M id = [] := by
  refine List.filter_eq_nil_iff.2 fun r hr hc => ?_
  have : hdK r ∈ T.flatten := (inv_keys h).mem_iff.1 (List.mem_map_of_mem hr)
  rw [decide_eq_true_eq] at hc
  rw [hc] at this
  exact absurd (has_iff.2 this) (by rw [hk]; simp)
theorem find_one {M : Tab} (hM : M.Pairwise fun a b => hdK a < hdK b) {r : List Int} (hr : r ∈ M) : findK M (hdK r) = [r] := by
  obtain ⟨A, B, rfl⟩ := List.append_of_mem hr
  rw [List.pairwise_append, List.pairwise_cons] at hM
  obtain ⟨_, ⟨h2, _⟩, h3⟩ := hM
  unfold findK
  rw [List.filter_append, List.filter_cons_of_pos (by simp), List.filter_eq_nil_iff.2, List.filter_eq_nil_iff.2]
  · rfl
  · intro x hx; have := h2 x hx; simp; omega
  · intro x hx; have := h3 x hx r (List.mem_cons_self ..); simp; omega
theorem cpu_row (h : hasB T id = true) : 0 ≤ cpuF T id ∧ cpuF T id < T.length ∧ id ∈ rowL T (cpuF T id) := by
  have hb : (T.any fun r => r.contains id) = true := h
  have hl : T.findIdx (fun r => r.contains id) < T.length := List.findIdx_lt_length.2 (by simpa [List.any_eq_true] using hb)
  refine ⟨by unfold cpuF; omega, by unfold cpuF; omega, ?_⟩
  have := List.findIdx_getElem (p := fun r : List Int => r.contains id) (w := hl)
  rw [List.contains_iff_mem] at this
  have e : rowL T (cpuF T id) = T[T.findIdx fun r => r.contains id] := by
    rw [rowL, cpuF, Int.toNat_natCast, List.getD_eq_getElem?_getD, List.getElem?_eq_getElem hl]; rfl
  rw [e]; exact this
theorem at_row (h : hasB T id = true) : 0 ≤ atF T id ∧ atF T id < lenR T (cpuF T id) ∧ (rowL T (cpuF T id)).getD (atF T id).toNat 0 = id := by
  have hm := (cpu_row h).2.2
  have hl : (rowL T (cpuF T id)).idxOf id < (rowL T (cpuF T id)).length := List.idxOf_lt_length_iff.2 hm
  refine ⟨by unfold atF; omega, by unfold atF lenR; omega, ?_⟩
  have h2 : (atF T id).toNat = (rowL T (cpuF T id)).idxOf id := by unfold atF; omega
  rw [h2, List.getD_eq_getElem?_getD, List.getElem?_eq_getElem hl]
  exact List.getElem_idxOf hl
theorem find_has (h : invB T M rm = true) (hM : M.Pairwise fun a b => hdK a < hdK b) (hk : hasB T id = true) : findK M id = [[id, cpuF T id]] := by
  obtain ⟨h0, h1, h2⟩ := cpu_row hk
  have hm : [id, cpuF T id] ∈ pairs 0 T := pairs_mem.2 ⟨cpuF T id, id, by omega, by omega, by simpa using h2, rfl⟩
  exact find_one hM ((inv_iff.1 h).2.2.mem_iff.2 hm)
theorem has_find (h : invB T M rm = true) (hM : M.Pairwise fun a b => hdK a < hdK b) : hasB T id = decide (0 < (findK M id).length) := by
  cases hk : hasB T id
  · rw [find_none h hk]; rfl
  · rw [find_has h hM hk]; rfl

/-- An id more. -/
theorem put_perm {row : List Int} (h : ∀ r ∈ M, hdK r ≠ hdK row) : (putK M row).Perm (row :: M) := by
  unfold putK
  refine (List.perm_middle).trans (.cons _ ?_)
  induction M with
  | nil => exact .nil
  | cons a M ih =>
    have ha := h a (List.mem_cons_self ..)
    have ih := ih fun r hr => h r (List.mem_cons_of_mem _ hr)
    by_cases hlt : hdK a < hdK row
    · rw [List.filter_cons_of_pos (by simpa using hlt), List.filter_cons_of_neg (by simp; omega)]
      exact .cons _ ih
    · rw [List.filter_cons_of_neg (by simpa using hlt), List.filter_cons_of_pos (by simp; omega)]
      exact (List.perm_middle).trans (.cons _ ih)
theorem lay_pairs {A B : Tab} {r : List Int} : (pairs 0 (A ++ (r ++ [id]) :: B)).Perm ([id, (A.length : Int)] :: pairs 0 (A ++ r :: B)) := by
  simp only [pairs_app, pairs, List.map_append, List.map_cons, List.map_nil, List.append_assoc, Int.zero_add, List.cons_append, List.nil_append]
  have : (pairs 0 A ++ (r.map (fun x => [x, (A.length : Int)]) ++ [id, (A.length : Int)] :: pairs (↑A.length + 1) B)).Perm ([id, (A.length : Int)] :: (pairs 0 A ++ (r.map (fun x => [x, (A.length : Int)]) ++ pairs (↑A.length + 1) B))) := by
    rw [← List.append_assoc, ← List.append_assoc]; exact List.perm_middle
  exact this
theorem keys_cons {T T' : Tab} {r : List Int} (h : (pairs 0 T).Perm (r :: pairs 0 T')) : T.flatten.Perm (hdK r :: T'.flatten) := by
  have := h.map hdK; rwa [pairs_keys, List.map_cons, pairs_keys] at this
theorem inv_lay (h : invB T M rm = true) (hk : hasB T id = false) (h0 : 0 ≤ c) (h1 : c < T.length) (hr : lenR T c < rm) : invB (layT T c id) (putK M [id, c]) rm = true := by
  obtain ⟨i1, i2, i3⟩ := inv_iff.1 h
  have hnot : id ∉ T.flatten := fun hm => by rw [has_iff.2 hm] at hk; cases hk
  have hkeys : ∀ r ∈ M, hdK r ≠ hdK [id, c] := fun r hrm e => hnot (by
    have := (inv_keys h).mem_iff.1 (List.mem_map_of_mem (f := hdK) hrm)
    rwa [e] at this)
  obtain ⟨A, B, e, hA⟩ := split h0 h1
  generalize hr' : rowL T c = r at *
  have el : layT T c id = A ++ (r ++ [id]) :: B := by rw [layT, hr', e, set_mid hA]
  have hp : (pairs 0 (layT T c id)).Perm ([id, c] :: pairs 0 T) := by rw [el, e, ← hA]; exact lay_pairs
  refine inv_iff.2 ⟨fun s hs => ?_, ?_, ?_⟩
  · rw [el] at hs
    rw [e] at i1
    rcases List.mem_append.1 hs with hs | hs
    · exact i1 s (List.mem_append_left _ hs)
    · rcases List.mem_cons.1 hs with rfl | hs
      · unfold lenR at hr; rw [hr'] at hr; simp; omega
      · exact i1 s (List.mem_append_right _ (List.mem_cons_of_mem _ hs))
  · rw [(keys_cons hp).nodup_iff]
    exact List.nodup_cons.2 ⟨hnot, i2⟩
  · exact (put_perm hkeys).trans ((i3.cons _).trans hp.symm)
/-- One less. -/
theorem cut_pairs {A B : Tab} {r : List Int} {n : Nat} (hn : n < r.length) : (pairs 0 (A ++ r :: B)).Perm ([r.getD n 0, (A.length : Int)] :: pairs 0 (A ++ r.eraseIdx n :: B)) := by
  have hp : r.Perm (r.getD n 0 :: r.eraseIdx n) := by
    rw [List.getD_eq_getElem?_getD, List.getElem?_eq_getElem hn, List.eraseIdx_eq_take_drop_succ]
    conv => lhs; rw [← List.take_append_drop n r, List.drop_eq_getElem_cons hn]
    exact List.perm_middle
  simp only [pairs_app, pairs, Int.zero_add]
  refine (List.Perm.append_left _ ((hp.map _).append_right _)).trans ?_
  simp only [List.map_cons, List.cons_append]
  exact List.perm_middle
theorem inv_cut (h : invB T M rm = true) (h0 : 0 ≤ c) (h1 : c < T.length) (hi : 0 ≤ i) (hr : i < lenR T c) : invB (cutT T c i) (delK M ((rowL T c).getD i.toNat 0)) rm = true ∧
    hasB (cutT T c i) ((rowL T c).getD i.toNat 0) = false ∧ T.flatten.Perm ((rowL T c).getD i.toNat 0 :: (cutT T c i).flatten) := by
  obtain ⟨i1, i2, i3⟩ := inv_iff.1 h
  obtain ⟨A, B, e, hA⟩ := split h0 h1
  have hrl : i.toNat < (rowL T c).length := by unfold lenR at hr; omega
  generalize hr' : rowL T c = r at *
  have el : cutT T c i = A ++ r.eraseIdx i.toNat :: B := by rw [cutT, hr', e, set_mid hA]
  have hp : (pairs 0 T).Perm ([r.getD i.toNat 0, c] :: pairs 0 (cutT T c i)) := by
    rw [el, ← hA]
    rw [show pairs 0 T = pairs 0 (A ++ r :: B) by rw [← e]]
    exact cut_pairs hrl
  have hf := keys_cons hp
  have hnd := hf.nodup_iff.1 i2
  have hnot : r.getD i.toNat 0 ∉ (cutT T c i).flatten := (List.nodup_cons.1 hnd).1
  refine ⟨inv_iff.2 ⟨fun s hs => ?_, (List.nodup_cons.1 hnd).2, ?_⟩, ?_, hf⟩
  · rw [el] at hs
    rw [e] at i1
    rcases List.mem_append.1 hs with hs | hs
    · exact i1 s (List.mem_append_left _ hs)
    · rcases List.mem_cons.1 hs with rfl | hs
      · have := i1 r (List.mem_append_right _ (List.mem_cons_self ..))
        have := List.length_eraseIdx_le r i.toNat
        omega
      · exact i1 s (List.mem_append_right _ (List.mem_cons_of_mem _ hs))
  · unfold delK
    have := (i3.trans hp).filter (fun s => !decide (hdK s = r.getD i.toNat 0))
    rw [List.filter_cons_of_neg (by simp [hdK])] at this
    refine this.trans (List.Perm.of_eq (List.filter_eq_self.2 fun s hs => ?_))
    have hm : hdK s ∈ (cutT T c i).flatten := by rw [← pairs_keys (cutT T c i) 0]; exact List.mem_map_of_mem hs
    simp only [Bool.not_eq_true', decide_eq_false_iff_not]
    intro e2; rw [e2] at hm; exact hnot hm
  · cases hb : hasB (cutT T c i) (r.getD i.toNat 0)
    · rfl
    · exact absurd (has_iff.1 hb) hnot
end Go.SF.C17
namespace Go.SF.C17
open Go.SF
set_option linter.unusedVariables false
set_option linter.unusedSimpArgs false
variable {T M : Tab} {c id rm i b s x : Int}

theorem rowT_get (T : Tab) (c : Int) (n : Nat) : ((rowT T c).getD n []).getD 0 0 = (rowL T c).getD n 0 := by
  unfold rowT rowL
  generalize T.getD c.toNat [] = r
  simp only [List.getD_eq_getElem?_getD, List.getElem?_map]
  cases r[n]? <;> rfl
theorem best_step (h0 : 0 ≤ c) (h1 : c < T.length) : bestF s T c b = bestF s T (c + 1) (if betB s T c b then c else b) := by
  unfold bestF
  rw [show T.length - c.toNat = (T.length - (c + 1).toNat) + 1 by omega]; rfl
theorem best_end (h1 : ¬ c < T.length) : bestF s T c b = b := by
  unfold bestF
  rw [show T.length - c.toNat = 0 by omega]; rfl
theorem long_yes (h0 : 0 ≤ c) (h1 : c < T.length) (h : lenR T b < lenR T c) : bestF 1 T c b = bestF 1 T (c + 1) c := by
  rw [best_step h0 h1, betB, if_pos rfl, decide_eq_true h]; rfl
theorem long_no (h0 : 0 ≤ c) (h1 : c < T.length) (h : ¬ lenR T b < lenR T c) : bestF 1 T c b = bestF 1 T (c + 1) b := by
  rw [best_step h0 h1, betB, if_pos rfl, decide_eq_false h]; rfl
theorem short_yes (h0 : 0 ≤ c) (h1 : c < T.length) (h : lenR T c < lenR T b) : bestF 0 T c b = bestF 0 T (c + 1) c := by
  rw [best_step h0 h1]; unfold betB; simp [h]
theorem short_no (h0 : 0 ≤ c) (h1 : c < T.length) (h : ¬ lenR T c < lenR T b) : bestF 0 T c b = bestF 0 T (c + 1) b := by
  rw [best_step h0 h1]; unfold betB; simp [h]
theorem long_max0 (T : Tab) : ∀ (n : Nat) (c b : Int), T.length - c.toNat = n → 0 ≤ c → 0 ≤ b → b < T.length →
    0 ≤ bestF 1 T c b ∧ bestF 1 T c b < T.length ∧ lenR T b ≤ lenR T (bestF 1 T c b) ∧ ∀ k, c ≤ k → k < T.length → lenR T k ≤ lenR T (bestF 1 T c b)
  | 0, c, b, hn, h0, hb, hb1 => by rw [best_end (by omega)]; exact ⟨hb, hb1, Int.le_refl _, fun k _ _ => by omega⟩
  | n + 1, c, b, hn, h0, hb, hb1 => by
    by_cases h : lenR T b < lenR T c
    · rw [long_yes h0 (by omega) h]
      obtain ⟨a1, a2, a3, a4⟩ := long_max0 T n (c + 1) c (by omega) (by omega) h0 (by omega)
      refine ⟨a1, a2, by omega, fun k h2 h3 => ?_⟩
      rcases Int.lt_or_eq_of_le h2 with h4 | h4
      · exact a4 k (by omega) h3
      · subst h4; exact a3
    · rw [long_no h0 (by omega) h]
      obtain ⟨a1, a2, a3, a4⟩ := long_max0 T n (c + 1) b (by omega) (by omega) hb hb1
      refine ⟨a1, a2, a3, fun k h2 h3 => ?_⟩
      rcases Int.lt_or_eq_of_le h2 with h4 | h4
      · exact a4 k (by omega) h3
      · subst h4; omega
theorem long_in (h : 1 ≤ (T.length : Int)) : 0 ≤ (bestF 1 T 0 0) ∧ (bestF 1 T 0 0) < T.length := ⟨(long_max0 T _ 0 0 rfl (by omega) (by omega) (by omega)).1, (long_max0 T _ 0 0 rfl (by omega) (by omega) (by omega)).2.1⟩
theorem long_max (h0 : 0 ≤ c) (h1 : c < T.length) : lenR T c ≤ lenR T (bestF 1 T 0 0) := (long_max0 T _ 0 0 rfl (by omega) (by omega) (by omega)).2.2.2 c h0 h1
theorem push_no {k : Int} (h : pushE T c id rm = k) (hk : k ≠ 0) : pushT T c id rm = T := if_neg (by omega)
theorem push_range (h : c < 0 ∨ (T.length : Int) ≤ c) : pushE T c id rm = 2 := if_pos h
theorem push_arg (h0 : 0 ≤ c) (h1 : c < T.length) (h : id < 0) : pushE T c id rm = 1 := by
  rw [pushE, if_neg (by omega), if_pos h]
theorem push_twice (h0 : 0 ≤ c) (h1 : c < T.length) (h : ¬ id < 0) (hk : hasB T id = true) : pushE T c id rm = 5 := by
  rw [pushE, if_neg (by omega), if_neg h, if_pos hk]
theorem push_full (h0 : 0 ≤ c) (h1 : c < T.length) (h : ¬ id < 0) (hk : hasB T id = false) (hr : lenR T c = rm) : pushE T c id rm = 3 := by
  rw [pushE, if_neg (by omega), if_neg h, if_neg (by rw [hk]; simp), if_pos hr]
theorem push_ok (h0 : 0 ≤ c) (h1 : c < T.length) (h : ¬ id < 0) (hk : hasB T id = false) (hr : ¬ lenR T c = rm) : pushE T c id rm = 0 ∧ pushT T c id rm = layT T c id := by
  have e : pushE T c id rm = 0 := by rw [pushE, if_neg (by omega), if_neg h, if_neg (by rw [hk]; simp), if_neg hr]
  exact ⟨e, if_pos e⟩
theorem has_of (h : invB T M rm = true) (hM : M.Pairwise fun a b => hdK a < hdK b) (hf : 0 < ((findK M id).length : Int)) : hasB T id = true := by
  rw [has_find h hM]; exact decide_eq_true (by omega)
theorem has_not (h : invB T M rm = true) (hM : M.Pairwise fun a b => hdK a < hdK b) (hf : ¬ 0 < ((findK M id).length : Int)) : hasB T id = false := by
  rw [has_find h hM]; exact decide_eq_false (by omega)
/-- Where. -/
theorem atG_stop (h0 : 0 ≤ i) (h1 : i < lenR T c) (h : (rowL T c).getD i.toNat 0 = id) : atG T c id i = i := by
  unfold atG
  unfold lenR at h1
  rw [List.drop_eq_getElem_cons (by omega)]
  rw [List.getD_eq_getElem?_getD, List.getElem?_eq_getElem (by omega)] at h
  simp only [Option.getD_some] at h
  rw [List.idxOf_cons, h]; simp
theorem atG_step (h0 : 0 ≤ i) (h1 : i < lenR T c) (h : ¬ (rowL T c).getD i.toNat 0 = id) : atG T c id i = atG T c id (i + 1) := by
  unfold atG
  unfold lenR at h1
  rw [List.drop_eq_getElem_cons (by omega)]
  rw [List.getD_eq_getElem?_getD, List.getElem?_eq_getElem (by omega)] at h
  simp only [Option.getD_some] at h
  rw [List.idxOf_cons, show (i + 1).toNat = i.toNat + 1 by omega, show ((rowL T c)[i.toNat] == id) = false by simpa using h, cond_false]
  omega
theorem atG_ge : i ≤ atG T c id i := by unfold atG; omega
theorem atG0 : atG T (cpuF T id) id 0 = atF T id := by simp [atG, atF]
theorem where_has (h : invB T M rm = true) (hM : M.Pairwise fun a b => hdK a < hdK b) (hk : hasB T id = true) : ((findK M id).getD (0 : Int).toNat []).getD 1 0 = cpuF T id := by
  rw [find_has h hM hk]; rfl
/-- Pop. -/
theorem any_not (h : 1 ≤ (T.length : Int)) (hl : lenR T (bestF 1 T 0 0) = 0) : anyB T = false := by
  cases hb : anyB T
  · rfl
  · obtain ⟨r, hr, hne⟩ := List.any_eq_true.1 hb
    obtain ⟨n, hn, rfl⟩ := List.getElem_of_mem hr
    have := long_max (T := T) (c := n) (by omega) (by omega)
    rw [hl] at this
    have e : lenR T n = (T[n].length : Int) := by rw [lenR, rowL, Int.toNat_natCast, List.getD_eq_getElem?_getD, List.getElem?_eq_getElem hn]; rfl
    rw [e] at this
    have : T[n] = [] := List.length_eq_zero_iff.1 (by omega)
    rw [this] at hne; simp at hne
theorem any_of (h0 : 0 ≤ c) (h1 : c < T.length) (hl : 0 < lenR T c) : anyB T = true := by
  refine List.any_eq_true.2 ⟨rowL T c, rowL_mem h0 h1, ?_⟩
  unfold lenR at hl
  cases hr : rowL T c
  · rw [hr] at hl; simp at hl
  · rfl
theorem pop_own (hl : 0 < lenR T c) : popF T c = c ∧ popT T c = cutT T c 0 ∧ popX T c = (rowL T c).getD (0 : Int).toNat 0 := by
  simp [popT, popX, popF, popI, hl]
theorem pop_long (hl : ¬ 0 < lenR T c) : popF T c = (bestF 1 T 0 0) ∧ popT T c = cutT T (bestF 1 T 0 0) (lenR T (bestF 1 T 0 0) - 1) ∧ popX T c = (rowL T (bestF 1 T 0 0)).getD (lenR T (bestF 1 T 0 0) - 1).toNat 0 := by
  simp [popT, popX, popF, popI, hl]
theorem drop_has (h : hasB T id = true) : dropT T id = cutT T (cpuF T id) (atF T id) := if_pos h
theorem drop_not (h : hasB T id = false) : dropT T id = T := if_neg (by rw [h]; simp)
theorem inv_new {n : Int} (hr : 1 ≤ rm) : invB (List.replicate n.toNat []) [] rm = true := by
  have h : ∀ (n : Nat) (c : Int), pairs c (List.replicate n []) = [] := by
    intro n
    induction n with
    | zero => intro c; rfl
    | succ n ih => intro c; rw [List.replicate_succ, pairs, ih]; rfl
  refine inv_iff.2 ⟨fun r hr' => ?_, ?_, ?_⟩
  · rw [(List.mem_replicate.1 hr').2]; simp; omega
  · simp
  · rw [h]
end Go.SF.C17
namespace Go.SF.C17
open Go.SF
set_option linter.unusedVariables false
set_option linter.unusedSimpArgs false
variable {T M IN : Tab} {c id rm i b s x many : Int}

/-! ### one queue of numbers that rise -/
/-! ### which ids there are -/
theorem cut_flat (h0 : 0 ≤ c) (h1 : c < T.length) (hi : 0 ≤ i) (hr : i < lenR T c) : T.flatten.Perm ((rowL T c).getD i.toNat 0 :: (cutT T c i).flatten) := by
  obtain ⟨A, B, e, hA⟩ := split h0 h1
  have hrl : i.toNat < (rowL T c).length := by unfold lenR at hr; omega
  generalize hr' : rowL T c = r at *
  have el : cutT T c i = A ++ r.eraseIdx i.toNat :: B := by rw [cutT, hr', e, set_mid hA]
  have hp : (pairs 0 T).Perm ([r.getD i.toNat 0, c] :: pairs 0 (cutT T c i)) := by
    rw [el, ← hA]
    rw [show pairs 0 T = pairs 0 (A ++ r :: B) by rw [← e]]
    exact cut_pairs hrl
  exact keys_cons hp
theorem lay_flat (h0 : 0 ≤ c) (h1 : c < T.length) : (layT T c id).flatten.Perm (id :: T.flatten) := by
  obtain ⟨A, B, e, hA⟩ := split h0 h1
  generalize hr' : rowL T c = r at *
  have el : layT T c id = A ++ (r ++ [id]) :: B := by rw [layT, hr', e, set_mid hA]
  have hp : (pairs 0 (layT T c id)).Perm ([id, c] :: pairs 0 T) := by
    rw [el, ← hA]
    rw [show pairs 0 T = pairs 0 (A ++ r :: B) by rw [← e]]
    exact lay_pairs
  exact keys_cons hp
theorem pop_flat (hT : 1 ≤ (T.length : Int)) (h0 : 0 ≤ c) (h1 : c < T.length) (ha : anyB T = true) : T.flatten.Perm (popX T c :: (popT T c).flatten) := by
  by_cases hl : 0 < lenR T c
  · obtain ⟨_, p2, p3⟩ := pop_own hl
    rw [p2, p3]
    exact cut_flat h0 h1 (by omega) (by omega)
  · obtain ⟨_, p2, p3⟩ := pop_long hl
    obtain ⟨l0, l1⟩ := long_in hT
    have hp := lenR_pos T (bestF 1 T 0 0)
    have : lenR T (bestF 1 T 0 0) ≠ 0 := fun e => by rw [any_not hT e] at ha; cases ha
    rw [p2, p3]
    exact cut_flat l0 l1 (by omega) (by omega)
theorem drop_flat (hk : hasB T id = true) : T.flatten.Perm (id :: (dropT T id).flatten) := by
  obtain ⟨c0, c1, _⟩ := cpu_row hk
  obtain ⟨a0, a1, a2⟩ := at_row hk
  rw [drop_has hk]
  have := cut_flat c0 c1 a0 a1
  rwa [a2] at this
/-! ### Even -/
theorem wrap_in {n : Int} (h0 : -9223372036854775808 ≤ n) (h1 : n ≤ 9223372036854775807) : IntKind.i64.wrap n = n := by
  simp only [IntKind.wrap]
  unfold IntKind.signed IntKind.bits
  simp
  omega
end Go.SF.C17
