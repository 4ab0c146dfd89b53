/- Chapter 17: lemmas in plain Lean, with no program in sight. -/
import Derived.Test.YtnhdohhhgfdhfaaPQ
namespace Go.SF.C17
open Go.SF
set_option linter.unusedVariables false
set_option linter.unusedSimpArgs false
variable {T M : Tab} {c id rm i b : Int}

theorem rowT_len (T : Tab) (c : Int) : (rowT T c).length = (rowL T c).length := by simp [rowT]
theorem lenR_rowT (T : Tab) (c : Int) : ((rowT T c).length : Int) = lenR T c := by simp [rowT, lenR]
theorem hd_one (r : List Int) : (r.map fun x => [x]).map hdK = r := by
  rw [List.map_map]; exact (List.map_congr_left (g := id) fun a _ => rfl).trans (List.map_id _)
theorem lay_eq (T : Tab) (c id : Int) : setT T c (rowT T c ++ [[id]]) = layT T c id := by
  unfold setT layT rowT
  rw [List.map_append, hd_one]; rfl
theorem cut_eq (T : Tab) (c i : Int) (h : 0 ≤ i) : setT T c (List.take i.toNat (rowT T c) ++ List.drop (i + 1).toNat (rowT T c)) = cutT T c i := by
  unfold setT cutT rowT
  rw [← List.map_take, ← List.map_drop, ← List.map_append, hd_one, List.eraseIdx_eq_take_drop_succ]
  congr 3; omega
theorem layT_len (T : Tab) (c id : Int) : (layT T c id).length = T.length := by simp [layT]
theorem cutT_len (T : Tab) (c i : Int) : (cutT T c i).length = T.length := by simp [cutT]
theorem rowL_mem (h0 : 0 ≤ c) (h1 : c < T.length) : rowL T c ∈ T := by
  rw [rowL, List.getD_eq_getElem?_getD, List.getElem?_eq_getElem (by omega)]; exact List.getElem_mem _
/-- A table about one of its rows. -/
theorem split (h0 : 0 ≤ c) (h1 : c < T.length) : ∃ A B, T = A ++ rowL T c :: B ∧ (A.length : Int) = c := by
  refine ⟨T.take c.toNat, T.drop (c.toNat + 1), ?_, by rw [List.length_take]; omega⟩
  have : T[c.toNat]? = some (rowL T c) := by rw [rowL, List.getD_eq_getElem?_getD, List.getElem?_eq_getElem (by omega)]; rfl
  conv => lhs; rw [← List.take_append_drop c.toNat T]
  rw [List.drop_eq_getElem_cons (by omega)]
  congr 2
  rw [List.getElem?_eq_getElem (by omega)] at this
  simpa using this
theorem set_mid {A B : Tab} {r r' : List Int} (h : (A.length : Int) = c) : (A ++ r :: B).set c.toNat r' = A ++ r' :: B := by
  rw [show c.toNat = A.length by omega, List.set_append_right _ _ (Nat.le_refl _)]; simp
theorem rowL_mid {A B : Tab} {r : List Int} (h : (A.length : Int) = c) : rowL (A ++ r :: B) c = r := by
  simp [rowL, show c.toNat = A.length by omega]
theorem pairs_app : ∀ (A B : Tab) (c : Int), pairs c (A ++ B) = pairs c A ++ pairs (c + A.length) B
  | [], B, c => by simp [pairs]
  | r :: A, B, c => by
    simp only [List.cons_append, pairs, pairs_app A B (c + 1), List.append_assoc]
    congr 3; simp; omega
theorem pairs_keys : ∀ (T : Tab) (c : Int), (pairs c T).map hdK = T.flatten
  | [], c => rfl
  | r :: T, c => by
    simp only [pairs, List.map_append, List.map_map, pairs_keys T (c + 1), List.flatten_cons]
    congr 1
    exact (List.map_congr_left (g := _root_.id) fun a _ => rfl).trans (List.map_id _)
theorem pairs_len (T : Tab) (c : Int) : (pairs c T).length = T.flatten.length := by rw [← pairs_keys T c, List.length_map]
theorem pairs_mem : ∀ {T : Tab} {c : Int} {r : List Int}, r ∈ pairs c T ↔ ∃ k x, c ≤ k ∧ k < c + T.length ∧ x ∈ rowL T (k - c) ∧ r = [x, k]
  | [], c, r => by
    simp only [pairs, List.not_mem_nil, List.length_nil, false_iff]
    rintro ⟨k, x, h1, h2, _⟩; simp at h2; omega
  | s :: T, c, r => by
    simp only [pairs, List.mem_append, List.mem_map, pairs_mem (T := T), List.length_cons]
    constructor
    · rintro (⟨x, hx, rfl⟩ | ⟨k, x, h1, h2, h3, rfl⟩)
      · exact ⟨c, x, by omega, by omega, by simpa [rowL] using hx, rfl⟩
      · refine ⟨k, x, by omega, by omega, ?_, rfl⟩
        have e : (k - c).toNat = (k - (c + 1)).toNat + 1 := by omega
        simpa [rowL, e] using h3
    · rintro ⟨k, x, h1, h2, h3, rfl⟩
      by_cases e : k = c
      · subst e; exact .inl ⟨x, by simpa [rowL] using h3, rfl⟩
      · refine .inr ⟨k, x, by omega, by omega, ?_, rfl⟩
        have e : (k - c).toNat = (k - (c + 1)).toNat + 1 := by omega
        simpa [rowL, e] using h3

theorem inv_iff : invB T M rm = true ↔ (∀ r ∈ T, (r.length : Int) ≤ rm) ∧ T.flatten.Nodup ∧ M.Perm (pairs 0 T) := by
  simp only [invB, Bool.and_eq_true, List.all_eq_true, decide_eq_true_eq, List.isPerm_iff]
theorem has_iff : hasB T id = true ↔ id ∈ T.flatten := by
  simp only [hasB, List.any_eq_true, List.contains_iff_mem, List.mem_flatten]
theorem inv_keys (h : invB T M rm = true) : (M.map hdK).Perm T.flatten := by
  have := (inv_iff.1 h).2.2.map hdK
  rwa [pairs_keys] at this
theorem inv_len (h : invB T M rm = true) : M.length = T.flatten.length := by rw [(inv_iff.1 h).2.2.length_eq, pairs_len]
theorem total_eq (T : Tab) : total T = (T.flatten.length : Int) := by simp [total, List.length_flatten]
theorem inv_row (h : invB T M rm = true) (h0 : 0 ≤ c) (h1 : c < T.length) : lenR T c ≤ rm := (inv_iff.1 h).1 _ (rowL_mem h0 h1)
theorem lenR_pos (T : Tab) (c : Int) : 0 ≤ lenR T c := by unfold lenR; omega
/-- What is found. -/
theorem find_none (h : invB T M rm = true) (hk : hasB T id = false) : findK M id = [] := by
  refine List.filter_eq_nil_iff.2 fun r hr hc => ?_
  have : hdK r ∈ T.flatten := (inv_keys h).mem_iff.1 (List.mem_map_of_mem hr)
  rw [decide_eq_true_eq] at hc
  rw [hc] at this
  exact absurd (has_iff.2 this) (by rw [hk]; simp)
theorem find_one {M : Tab} (hM : M.Pairwise fun a b => hdK a < hdK b) {r : List Int} (hr : r ∈ M) : findK M (hdK r) = [r] := by
  obtain ⟨A, B, rfl⟩ := List.append_of_mem hr
  rw [List.pairwise_append, List.pairwise_cons] at hM
  obtain ⟨_, ⟨h2, _⟩, h3⟩ := hM
  unfold findK
  rw [List.filter_append, List.filter_cons_of_pos (by simp), List.filter_eq_nil_iff.2, List.filter_eq_nil_iff.2]
  · rfl
  · intro x hx; have := h2 x hx; simp; omega
  · intro x hx; have := h3 x hx r (List.mem_cons_self ..); simp; omega
theorem cpu_row (h : hasB T id = true) : 0 ≤ cpuF T id ∧ cpuF T id < T.length ∧ id ∈ rowL T (cpuF T id) := by
  have hb : (T.any fun r => r.contains id) = true := h
  have hl : T.findIdx (fun r => r.contains id) < T.length := List.findIdx_lt_length.2 (by simpa [List.any_eq_true] using hb)
  refine ⟨by unfold cpuF; omega, by unfold cpuF; omega, ?_⟩
  have := List.findIdx_getElem (p := fun r : List Int => r.contains id) (w := hl)
  rw [List.contains_iff_mem] at this
  have e : rowL T (cpuF T id) = T[T.findIdx fun r => r.contains id] := by
    rw [rowL, cpuF, Int.toNat_natCast, List.getD_eq_getElem?_getD, List.getElem?_eq_getElem hl]; rfl
  rw [e]; exact this
theorem at_row (h : hasB T id = true) : 0 ≤ atF T id ∧ atF T id < lenR T (cpuF T id) ∧ (rowL T (cpuF T id)).getD (atF T id).toNat 0 = id := by
  have hm := (cpu_row h).2.2
  have hl : (rowL T (cpuF T id)).idxOf id < (rowL T (cpuF T id)).length := List.idxOf_lt_length_iff.2 hm
  refine ⟨by unfold atF; omega, by unfold atF lenR; omega, ?_⟩
  have h2 : (atF T id).toNat = (rowL T (cpuF T id)).idxOf id := by unfold atF; omega
  rw [h2, List.getD_eq_getElem?_getD, List.getElem?_eq_getElem hl]
  exact List.getElem_idxOf hl
theorem find_has (h : invB T M rm = true) (hM : M.Pairwise fun a b => hdK a < hdK b) (hk : hasB T id = true) : findK M id = [[id, cpuF T id]] := by
  obtain ⟨h0, h1, h2⟩ := cpu_row hk
  have hm : [id, cpuF T id] ∈ pairs 0 T := pairs_mem.2 ⟨cpuF T id, id, by omega, by omega, by simpa using h2, rfl⟩
  exact find_one hM ((inv_iff.1 h).2.2.mem_iff.2 hm)
theorem has_find (h : invB T M rm = true) (hM : M.Pairwise fun a b => hdK a < hdK b) : hasB T id = decide (0 < (findK M id).length) := by
  cases hk : hasB T id
  · rw [find_none h hk]; rfl
  · rw [find_has h hM hk]; rfl

/-- An id more. -/
theorem put_perm {row : List Int} (h : ∀ r ∈ M, hdK r ≠ hdK row) : (putK M row).Perm (row :: M) := by
  unfold putK
  refine (List.perm_middle).trans (.cons _ ?_)
  induction M with
  | nil => exact .nil
  | cons a M ih =>
    have ha := h a (List.mem_cons_self ..)
    have ih := ih fun r hr => h r (List.mem_cons_of_mem _ hr)
    by_cases hlt : hdK a < hdK row
    · rw [List.filter_cons_of_pos (by simpa using hlt), List.filter_cons_of_neg (by simp; omega)]
      exact .cons _ ih
    · rw [List.filter_cons_of_neg (by simpa using hlt), List.filter_cons_of_pos (by simp; omega)]
      exact (List.perm_middle).trans (.cons _ ih)
theorem lay_pairs {A B : Tab} {r : List Int} : (pairs 0 (A ++ (r ++ [id]) :: B)).Perm ([id, (A.length : Int)] :: pairs 0 (A ++ r :: B)) := by
  simp only [pairs_app, pairs, List.map_append, List.map_cons, List.map_nil, List.append_assoc, Int.zero_add, List.cons_append, List.nil_append]
  have : (pairs 0 A ++ (r.map (fun x => [x, (A.length : Int)]) ++ [id, (A.length : Int)] :: pairs (↑A.length + 1) B)).Perm ([id, (A.length : Int)] :: (pairs 0 A ++ (r.map (fun x => [x, (A.length : Int)]) ++ pairs (↑A.length + 1) B))) := by
    rw [← List.append_assoc, ← List.append_assoc]; exact List.perm_middle
  exact this
theorem nodup_pairs {T T' : Tab} (h : (pairs 0 T).Perm (pairs 0 T')) : T.flatten.Perm T'.flatten := by
  have := h.map hdK; rwa [pairs_keys, pairs_keys] at this
theorem keys_cons {T T' : Tab} {r : List Int} (h : (pairs 0 T).Perm (r :: pairs 0 T')) : T.flatten.Perm (hdK r :: T'.flatten) := by
  have := h.map hdK; rwa [pairs_keys, List.map_cons, pairs_keys] at this
theorem inv_lay (h : invB T M rm = true) (hk : hasB T id = false) (h0 : 0 ≤ c) (h1 : c < T.length) (hr : lenR T c < rm) : invB (layT T c id) (putK M [id, c]) rm = true := by
  obtain ⟨i1, i2, i3⟩ := inv_iff.1 h
  have hnot : id ∉ T.flatten := fun hm => by rw [has_iff.2 hm] at hk; cases hk
  have hkeys : ∀ r ∈ M, hdK r ≠ hdK [id, c] := fun r hrm e => hnot (by
    have := (inv_keys h).mem_iff.1 (List.mem_map_of_mem (f := hdK) hrm)
    rwa [e] at this)
  obtain ⟨A, B, e, hA⟩ := split h0 h1
  generalize hr' : rowL T c = r at *
  have el : layT T c id = A ++ (r ++ [id]) :: B := by rw [layT, hr', e, set_mid hA]
  have hp : (pairs 0 (layT T c id)).Perm ([id, c] :: pairs 0 T) := by rw [el, e, ← hA]; exact lay_pairs
  refine inv_iff.2 ⟨fun s hs => ?_, ?_, ?_⟩
  · rw [el] at hs
    rw [e] at i1
    rcases List.mem_append.1 hs with hs | hs
    · exact i1 s (List.mem_append_left _ hs)
    · rcases List.mem_cons.1 hs with rfl | hs
      · unfold lenR at hr; rw [hr'] at hr; simp; omega
      · exact i1 s (List.mem_append_right _ (List.mem_cons_of_mem _ hs))
  · rw [(keys_cons hp).nodup_iff]
    exact List.nodup_cons.2 ⟨hnot, i2⟩
  · exact (put_perm hkeys).trans ((i3.cons _).trans hp.symm)
/-- One less. -/
theorem cut_pairs {A B : Tab} {r : List Int} {n : Nat} (hn : n < r.length) : (pairs 0 (A ++ r :: B)).Perm ([r.getD n 0, (A.length : Int)] :: pairs 0 (A ++ r.eraseIdx n :: B)) := by
  have hp : r.Perm (r.getD n 0 :: r.eraseIdx n) := by
    rw [List.getD_eq_getElem?_getD, List.getElem?_eq_getElem hn, List.eraseIdx_eq_take_drop_succ]
    conv => lhs; rw [← List.take_append_drop n r, List.drop_eq_getElem_cons hn]
    exact List.perm_middle
  simp only [pairs_app, pairs, Int.zero_add]
  refine (List.Perm.append_left _ ((hp.map _).append_right _)).trans ?_
  simp only [List.map_cons, List.cons_append]
  exact List.perm_middle
theorem inv_cut (h : invB T M rm = true) (h0 : 0 ≤ c) (h1 : c < T.length) (hi : 0 ≤ i) (hr : i < lenR T c) : invB (cutT T c i) (delK M ((rowL T c).getD i.toNat 0)) rm = true ∧
    hasB (cutT T c i) ((rowL T c).getD i.toNat 0) = false ∧ T.flatten.Perm ((rowL T c).getD i.toNat 0 :: (cutT T c i).flatten) := by
  obtain ⟨i1, i2, i3⟩ := inv_iff.1 h
  obtain ⟨A, B, e, hA⟩ := split h0 h1
  have hrl : i.toNat < (rowL T c).length := by unfold lenR at hr; omega
  generalize hr' : rowL T c = r at *
  have el : cutT T c i = A ++ r.eraseIdx i.toNat :: B := by rw [cutT, hr', e, set_mid hA]
  have hp : (pairs 0 T).Perm ([r.getD i.toNat 0, c] :: pairs 0 (cutT T c i)) := by
    rw [el, ← hA]
    rw [show pairs 0 T = pairs 0 (A ++ r :: B) by rw [← e]]
    exact cut_pairs hrl
  have hf := keys_cons hp
  have hnd := hf.nodup_iff.1 i2
  have hnot : r.getD i.toNat 0 ∉ (cutT T c i).flatten := (List.nodup_cons.1 hnd).1
  refine ⟨inv_iff.2 ⟨fun s hs => ?_, (List.nodup_cons.1 hnd).2, ?_⟩, ?_, hf⟩
  · rw [el] at hs
    rw [e] at i1
    rcases List.mem_append.1 hs with hs | hs
    · exact i1 s (List.mem_append_left _ hs)
    · rcases List.mem_cons.1 hs with rfl | hs
      · have := i1 r (List.mem_append_right _ (List.mem_cons_self ..))
        have := List.length_eraseIdx_le r i.toNat
        omega
      · exact i1 s (List.mem_append_right _ (List.mem_cons_of_mem _ hs))
  · unfold delK
    have := (i3.trans hp).filter (fun s => !decide (hdK s = r.getD i.toNat 0))
    rw [List.filter_cons_of_neg (by simp [hdK])] at this
    refine this.trans (List.Perm.of_eq (List.filter_eq_self.2 fun s hs => ?_))
    have hm : hdK s ∈ (cutT T c i).flatten := by rw [← pairs_keys (cutT T c i) 0]; exact List.mem_map_of_mem hs
    simp only [Bool.not_eq_true', decide_eq_false_iff_not]
    intro e2; rw [e2] at hm; exact hnot hm
  · cases hb : hasB (cutT T c i) (r.getD i.toNat 0)
    · rfl
    · exact absurd (has_iff.1 hb) hnot
end Go.SF.C17
