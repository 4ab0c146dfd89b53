/- Plain facts for the law Keeps of chapter 17. -/
import Derived.Test.YtmkklciobehohaaP5
import Derived.Test.YtmkklciobehohaaP4
namespace Go.SF.C17
open Go Go.SF
set_option linter.unusedVariables false
variable {T : Tab} {M : Tab} {c id n : Int}

theorem take_row (h0 : 0 ≤ c) (h1 : c < T.length) : setT (T.take c.toNat ++ [[]]) ((T.take c.toNat).length : Int) (rowT T c) = T.take (c + 1).toNat := by
  have hr : (rowT T c).map hdK = rowL T c := by unfold rowT; exact hd_one _
  unfold setT
  rw [hr, show (c + 1).toNat = c.toNat + 1 by omega, List.take_add_one, List.getElem?_eq_getElem (by omega : c.toNat < T.length)]
  rw [List.set_append_right _ _ (by simp)]
  simp [List.getD, List.getElem?_eq_getElem (by omega : c.toNat < T.length)]
theorem take_row0 (h1 : 1 ≤ (T.length : Int)) : setT [[]] 0 (rowT T 0) = T.take (1 : Int).toNat := by
  have := take_row (T := T) (c := 0) (by omega) (by omega)
  simpa using this
theorem want_aux {l : List Int} {k : Nat} (hn : k < l.length) (id : Int) : ((l.map fun x => [x]).take (k + 1)).filter (fun r => hdK r != id) =
    ((l.map fun x => [x]).take k).filter (fun r => hdK r != id) ++ (if l.getD k 0 = id then [] else [[l.getD k 0]]) := by
  have e : l.getD k 0 = l[k] := by simp [List.getD, List.getElem?_eq_getElem hn]
  rw [List.take_add_one, List.filter_append, List.getElem?_map, List.getElem?_eq_getElem hn, e]
  congr 1
  by_cases h : l[k] = id
  · simp [h, hdK]
  · simp [h, hdK]
theorem want_step (h0 : 0 ≤ n) (h1 : n < lenR T c) : wantT T c id (n + 1) = wantT T c id n ++ (if (rowL T c).getD n.toNat 0 = id then [] else [[(rowL T c).getD n.toNat 0]]) := by
  have hn : n.toNat < (rowL T c).length := by unfold lenR at h1; omega
  have := want_aux hn id
  unfold wantT
  rw [show (n + 1).toNat = n.toNat + 1 by omega]
  exact this
theorem want_yes (h0 : 0 ≤ n) (h1 : n < lenR T c) (h : (rowL T c).getD n.toNat 0 = id) : wantT T c id (n + 1) = wantT T c id n := by
  rw [want_step h0 h1, if_pos h, List.append_nil]
theorem want_no (h0 : 0 ≤ n) (h1 : n < lenR T c) (h : ¬ (rowL T c).getD n.toNat 0 = id) : wantT T c id (n + 1) = wantT T c id n ++ [[(rowL T c).getD n.toNat 0]] := by
  rw [want_step h0 h1, if_neg h]
theorem want_0 (T : Tab) (c id : Int) : wantT T c id 0 = [] := by simp [wantT]
theorem want_ge (h : ¬ n < lenR T c) : wantT T c id n = wantT T c id (lenR T c) := by
  have h2 := rowT_len T c
  unfold lenR at h
  unfold wantT lenR
  rw [List.take_of_length_le (by omega), List.take_of_length_le (by omega)]
theorem want_len (T : Tab) (c id n : Int) : ((wantT T c id n).length : Int) ≤ lenR T c := by
  unfold wantT lenR
  have h1 := List.length_filter_le (fun r => hdK r != id) ((rowT T c).take n.toNat)
  have h2 := rowT_len T c
  simp only [List.length_take] at h1
  omega
theorem dropT_len (T : Tab) (id : Int) : (dropT T id).length = T.length := by
  unfold dropT; split
  · exact cutT_len _ _ _
  · rfl
theorem filter_erase {l : List Int} {i : Nat} (h : l.getD i 0 = id) : (l.eraseIdx i).filter (fun x => x != id) = l.filter fun x => x != id := by
  rcases Nat.lt_or_ge i l.length with hi | hi
  · rw [List.eraseIdx_eq_take_drop_succ]
    conv => rhs; rw [← List.take_append_drop i l]
    have e : l.drop i = id :: l.drop (i + 1) := by
      rw [List.drop_eq_getElem_cons hi]; simp [List.getD, List.getElem?_eq_getElem hi] at h; rw [h]
    rw [e]; simp
  · rw [List.eraseIdx_of_length_le hi]
theorem drop_row (h0 : 0 ≤ c) (h1 : c < T.length) : (rowL (dropT T id) c).filter (fun x => x != id) = (rowL T c).filter fun x => x != id := by
  cases hk : hasB T id with
  | false => rw [drop_not hk]
  | true =>
    obtain ⟨c0, c1, c2⟩ := cpu_row hk
    obtain ⟨a0, a1, a2⟩ := at_row hk
    rw [drop_has hk, row_cut c0 c1 h0]
    split
    · rename_i e; rw [e]; exact filter_erase a2
    · rfl
theorem drop_lenR (h0 : 0 ≤ c) (h1 : c < T.length) : lenR T c ≤ lenR (dropT T id) c + 1 := by
  cases hk : hasB T id with
  | false => rw [drop_not hk]; omega
  | true =>
    obtain ⟨c0, c1, c2⟩ := cpu_row hk
    obtain ⟨a0, a1, a2⟩ := at_row hk
    rw [drop_has hk, len_cut c0 c1 h0 a0 a1]
    split
    · rename_i e; rw [e]; omega
    · omega
theorem want_all (h0 : 0 ≤ c) (h1 : c < T.length) (hn : hasB (dropT T id) id = false) : rowT (dropT T id) c = wantT T c id (lenR T c) := by
  have e : (rowL (dropT T id) c).filter (fun x => x != id) = rowL (dropT T id) c := by
    refine List.filter_eq_self.2 fun x hx => ?_
    have hm := rowL_mem (T := dropT T id) h0 (by rw [dropT_len]; exact h1)
    simp only [bne_iff_ne, ne_eq]
    rintro rfl
    rw [has_iff.2 (List.mem_flatten.2 ⟨_, hm, hx⟩)] at hn
    cases hn
  have h2 := rowT_len T c
  unfold wantT lenR
  rw [List.take_of_length_le (by omega)]
  show (rowL (dropT T id) c).map (fun x => [x]) = ((rowL T c).map fun x => [x]).filter fun r => hdK r != id
  rw [← e, drop_row h0 h1, List.filter_map]
  rfl
theorem drop_gone (hi : invB T M n = true) : hasB (dropT T id) id = false := by
  cases hk : hasB T id with
  | false => rw [drop_not hk]; exact hk
  | true =>
    have hp := drop_flat hk
    have hn := hp.nodup_iff.1 (inv_iff.1 hi).2.1
    cases h : hasB (dropT T id) id with
    | false => rfl
    | true => exact absurd (has_iff.1 h) (List.nodup_cons.1 hn).1
theorem pos_iff : posB T = true ↔ ∀ x ∈ T.flatten, 0 ≤ x := by
  simp only [posB, List.all_eq_true, List.mem_flatten, decide_eq_true_eq]
  exact ⟨fun h x ⟨r, hr, hx⟩ => h r hr x hx, fun h r hr x hx => h x ⟨r, hr, hx⟩⟩
theorem pos_new (n : Int) : posB (List.replicate n.toNat []) = true := by
  rw [pos_iff]; intro x hx
  obtain ⟨r, hr, hx⟩ := List.mem_flatten.1 hx
  rw [(List.mem_replicate.1 hr).2] at hx; cases hx
theorem pos_push {rm : Int} (h : posB T = true) : posB (pushT T c id rm) = true := by
  unfold pushT
  split
  · rename_i he
    have hc : ¬ (c < 0 ∨ (T.length : Int) ≤ c) := fun hc => by unfold pushE at he; rw [if_pos hc] at he; cases he
    have hid : ¬ id < 0 := fun hd => by unfold pushE at he; rw [if_neg hc, if_pos hd] at he; cases he
    rw [pos_iff] at h ⊢
    intro x hx
    rcases List.mem_cons.1 ((lay_flat (T := T) (id := id) (by omega) (by omega)).mem_iff.1 hx) with rfl | hx
    · omega
    · exact h x hx
  · exact h
theorem back (hi : invB T M 64 = true) (hp : posB T = true) (hk : hasB T id = true) : pushE (dropT T id) (cpuF T id) id 64 = 0 ∧ lenR (pushT (dropT T id) (cpuF T id) id 64) (cpuF T id) = lenR T (cpuF T id) ∧
    (rowL (pushT (dropT T id) (cpuF T id) id 64) (cpuF T id)).getD (lenR (pushT (dropT T id) (cpuF T id) id 64) (cpuF T id) - 1).toNat 0 = id := by
  obtain ⟨c0, c1, c2⟩ := cpu_row hk
  obtain ⟨a0, a1, a2⟩ := at_row hk
  have hl := inv_row hi c0 c1
  have hd : lenR (dropT T id) (cpuF T id) = lenR T (cpuF T id) - 1 := by rw [drop_has hk, len_cut c0 c1 c0 a0 a1, if_pos rfl]
  have hdl : ((dropT T id).length : Int) = T.length := by rw [dropT_len]
  have h0 : 0 ≤ id := pos_iff.1 hp id (has_iff.1 hk)
  have he : pushE (dropT T id) (cpuF T id) id 64 = 0 := by
    unfold pushE
    rw [if_neg (by omega), if_neg (by omega), drop_gone hi, if_neg (by simp), if_neg (by omega)]
  have ht : pushT (dropT T id) (cpuF T id) id 64 = layT (dropT T id) (cpuF T id) id := if_pos he
  have hlen : lenR (layT (dropT T id) (cpuF T id) id) (cpuF T id) = lenR T (cpuF T id) := by rw [len_lay c0 (by omega) c0, if_pos rfl]; omega
  refine ⟨he, by rw [ht]; exact hlen, ?_⟩
  rw [ht, hlen, row_lay c0 (by omega) c0, if_pos rfl]
  have e : (lenR T (cpuF T id) - 1).toNat = (rowL (dropT T id) (cpuF T id)).length := by unfold lenR at hd ⊢; omega
  rw [e]
  simp [List.getD]
end Go.SF.C17
