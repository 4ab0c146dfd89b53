/- What the functions of chapter 19 come to, in plain Lean. -/
import Derived.Test.YtjeafkeofbmgcaaP
import Derived.Test.YtjeafkeofbmgcaaSFOpen
namespace Go.SF.C19
open Go.SF
set_option linter.unusedVariables false
set_option linter.unusedSimpArgs false

abbrev K5 : List CK := [.i .i64, .i .i64, .i .i64, .b, .i .i64]
theorem five {r : List Int} (h : okRow K5 r) : ∃ a b c d e, r = [a, b, c, d, e] := by
  match r, h with
  | [a, b, c, d, e], _ => exact ⟨a, b, c, d, e, rfl⟩
def allZ (r : List Int) : Prop := r.getD 0 0 = 0 ∧ r.getD 1 0 = 0 ∧ r.getD 2 0 = 0 ∧ r.getD 3 0 = 0 ∧ r.getD 4 0 = 0
theorem z_iff {r : List Int} (h : okRow K5 r) : r = Z5 ↔ allZ r := by
  obtain ⟨a, b, c, d, e, rfl⟩ := five h
  simp [allZ, List.getD]
theorem free_t {r : List Int} (h : okRow K5 r) (hz : allZ r) : freeB r = true := decide_eq_true ((z_iff h).2 hz)
theorem free_f {r : List Int} (h : okRow K5 r) (hz : ¬ allZ r) : freeB r = false := decide_eq_false (mt (z_iff h).1 hz)
theorem live_t {r : List Int} (h : okRow K5 r) (hz : ¬ allZ r) : liveB r = true := by unfold liveB; rw [Bool.not_eq_true', decide_eq_false_iff_not]; exact mt (z_iff h).1 hz
theorem live_f {r : List Int} (h : okRow K5 r) (hz : allZ r) : liveB r = false := by unfold liveB; rw [Bool.not_eq_false', decide_eq_true_eq]; exact (z_iff h).2 hz
theorem of_t {r : List Int} {g : Int} (h : okRow K5 r) (hz : ¬ allZ r) (hg : r.getD 0 0 = g ∨ r.getD 2 0 = g) : ofG g r = true := by
  unfold ofG
  rw [Bool.and_eq_true, Bool.not_eq_true', decide_eq_false_iff_not, Bool.or_eq_true, decide_eq_true_eq, decide_eq_true_eq]
  exact ⟨mt (z_iff h).1 hz, hg⟩
theorem of_f {r : List Int} {g : Int} (h : okRow K5 r) (hz : allZ r ∨ ¬ (r.getD 0 0 = g ∨ r.getD 2 0 = g)) : ofG g r = false := by
  rw [Bool.eq_false_iff]
  intro x
  unfold ofG at x
  rw [Bool.and_eq_true, Bool.not_eq_true', decide_eq_false_iff_not, Bool.or_eq_true, decide_eq_true_eq, decide_eq_true_eq] at x
  rcases hz with hz | hz
  · exact x.1 ((z_iff h).2 hz)
  · exact hz x.2
theorem same_t {r : List Int} {o p t : Int} (h : r.getD 0 0 = o ∧ r.getD 1 0 = p ∧ r.getD 2 0 = t) : sameR o p t r = true := by
  unfold sameR; rw [Bool.and_eq_true, Bool.and_eq_true, decide_eq_true_eq, decide_eq_true_eq, decide_eq_true_eq]; exact ⟨⟨h.1, h.2.1⟩, h.2.2⟩
theorem same_f {r : List Int} {o p t : Int} (h : ¬ (r.getD 0 0 = o ∧ r.getD 1 0 = p ∧ r.getD 2 0 = t)) : sameR o p t r = false := by
  rw [Bool.eq_false_iff]
  intro x
  unfold sameR at x
  rw [Bool.and_eq_true, Bool.and_eq_true, decide_eq_true_eq, decide_eq_true_eq, decide_eq_true_eq] at x
  exact h ⟨x.1.1, x.1.2, x.2⟩

/-! ### places -/
theorem getD_mem {A : Tab} {i : Int} (h0 : 0 ≤ i) (h1 : i < A.length) : A.getD i.toNat [] ∈ A := by
  have hk : i.toNat < A.length := by omega
  simp [List.getD, hk]
theorem drop_step {A : Tab} {i : Int} (h : 0 ≤ i) (hi : i < A.length) : A.drop i.toNat = A.getD i.toNat [] :: A.drop (i + 1).toNat := by
  have hlt : i.toNat < A.length := by omega
  rw [List.drop_eq_getElem_cons hlt, show (i + 1).toNat = i.toNat + 1 by omega]
  simp [List.getD, List.getElem?_eq_getElem hlt]
theorem idx_yes {p : List Int → Bool} {T : Tab} {i : Int} (h : 0 ≤ i) (hi : i < T.length) (hp : p (T.getD i.toNat []) = true) : idxT p i (T.drop i.toNat) = [i] :: idxT p (i + 1) (T.drop (i + 1).toNat) := by
  rw [drop_step h hi, idxT, if_pos hp]
theorem idx_no {p : List Int → Bool} {T : Tab} {i : Int} (h : 0 ≤ i) (hi : i < T.length) (hp : p (T.getD i.toNat []) = false) : idxT p i (T.drop i.toNat) = idxT p (i + 1) (T.drop (i + 1).toNat) := by
  rw [drop_step h hi, idxT, if_neg (by rw [hp]; simp)]
theorem idx_end {p : List Int → Bool} {T : Tab} {i : Int} (hi : ¬ i < T.length) : idxT p i (T.drop i.toNat) = [] := by
  rw [List.drop_of_length_le (by omega)]; rfl
theorem idx_mem {p : List Int → Bool} : ∀ {T : Tab} {i : Int} {r : List Int}, r ∈ idxT p i T → ∃ k : Nat, k < T.length ∧ r = [i + k] ∧ p (T.getD k []) = true
  | [], _, r, h => by cases h
  | s :: T, i, r, h => by
    have key : r ∈ idxT p (i + 1) T → ∃ k : Nat, k < (s :: T).length ∧ r = [i + k] ∧ p ((s :: T).getD k []) = true := fun h => by
      obtain ⟨k, h1, h2, h3⟩ := idx_mem h
      refine ⟨k + 1, by simp; omega, ?_, by simpa using h3⟩
      rw [h2]; congr 1; omega
    rw [idxT] at h
    split at h
    · rename_i hp
      rcases List.mem_cons.1 h with rfl | h
      · exact ⟨0, by simp, by simp, by simpa using hp⟩
      · exact key h
    · exact key h
theorem idx_len {p : List Int → Bool} : ∀ {T : Tab} {i : Int}, (idxT p i T).length ≤ T.length
  | [], _ => Nat.le_refl _
  | s :: T, i => by
    rw [idxT]
    split
    · simp only [List.length_cons]; have := @idx_len p T (i + 1); omega
    · simp only [List.length_cons]; have := @idx_len p T (i + 1); omega
theorem idx_head {p : List Int → Bool} {T : Tab} (h : ¬ (idxT p 0 T).length = 0) : 0 ≤ ((idxT p 0 T).getD 0 []).getD 0 0 ∧ ((idxT p 0 T).getD 0 []).getD 0 0 < T.length ∧ p (T.getD (((idxT p 0 T).getD 0 []).getD 0 0).toNat []) = true := by
  match hL : idxT p 0 T with
  | [] => rw [hL] at h; exact absurd rfl h
  | r :: L =>
    obtain ⟨k, h1, h2, h3⟩ := idx_mem (p := p) (T := T) (i := 0) (r := r) (by rw [hL]; simp)
    subst h2
    simp only [List.getD_cons_zero, Int.zero_add, Int.toNat_natCast]
    exact ⟨by omega, by omega, h3⟩
theorem idx_none {p : List Int → Bool} : ∀ {T : Tab} {i : Int}, (∀ r ∈ T, p r = false) → idxT p i T = []
  | [], _, _ => rfl
  | s :: T, i, h => by
    rw [idxT, if_neg (by rw [h s (by simp)]; simp)]
    exact idx_none fun r hr => h r (List.mem_cons_of_mem _ hr)

/-! ### rows that are changed -/
theorem mod_congr {f g : List Int → List Int} : ∀ {T : Tab} {n : Nat}, (∀ r ∈ T, f r = g r) → T.modify n f = T.modify n g
  | [], n, _ => by simp
  | r :: T, 0, h => by rw [List.modify_zero_cons, List.modify_zero_cons, h r (by simp)]
  | r :: T, n + 1, h => by rw [List.modify_succ_cons, List.modify_succ_cons, mod_congr fun s hs => h s (List.mem_cons_of_mem _ hs)]
theorem set5 {T : Tab} (hT : ∀ r ∈ T, okRow K5 r) (n : Nat) (a b c d e : Int) :
    (((((T.modify n fun row => row.set (0 : Int).toNat a).modify n fun row => row.set (1 : Int).toNat b).modify n fun row => row.set (2 : Int).toNat c).modify n fun row => row.set (3 : Int).toNat d).modify n fun row => row.set (4 : Int).toNat e) = T.modify n fun _ => [a, b, c, d, e] := by
  simp only [List.modify_modify_eq]
  refine mod_congr fun r hr => ?_
  obtain ⟨x0, x1, x2, x3, x4, rfl⟩ := five (hT r hr)
  rfl
theorem mem_mod {f : List Int → List Int} : ∀ {A : Tab} {n : Nat} {r : List Int}, r ∈ A.modify n f → r ∈ A ∨ ∃ s ∈ A, r = f s
  | [], n, r, h => by simp at h
  | a :: A, 0, r, h => by
    rw [List.modify_zero_cons] at h
    rcases List.mem_cons.1 h with rfl | h
    · exact .inr ⟨a, by simp, rfl⟩
    · exact .inl (List.mem_cons_of_mem _ h)
  | a :: A, n + 1, r, h => by
    rw [List.modify_succ_cons] at h
    rcases List.mem_cons.1 h with rfl | h
    · exact .inl (by simp)
    · rcases mem_mod h with h | ⟨s, hs, e⟩
      · exact .inl (List.mem_cons_of_mem _ h)
      · exact .inr ⟨s, List.mem_cons_of_mem _ hs, e⟩
theorem mod_at {T : Tab} {i : Int} (h0 : 0 ≤ i) (h1 : i < T.length) (f : List Int → List Int) : (T.modify i.toNat f).getD i.toNat [] = f (T.getD i.toNat []) := by
  have hk : i.toNat < T.length := by omega
  simp [List.getD, hk]

/-! ### whether there is none -/
section
variable {T : Tab} {id : Int} (hT : ∀ r ∈ T, okRow K5 r)
theorem none_out (h : id < 0 ∨ (T.length : Int) ≤ id) : noneB T id = true := by
  unfold noneB; rw [Bool.or_eq_true, Bool.or_eq_true, decide_eq_true_eq, decide_eq_true_eq]; exact .inl h
include hT
theorem none_z (h0 : 0 ≤ id) (h1 : id < T.length) (h : allZ (T.getD id.toNat [])) : noneB T id = true := by
  unfold noneB; rw [Bool.or_eq_true]; exact .inr (free_t (hT _ (getD_mem h0 h1)) h)
theorem none_not (h0 : 0 ≤ id) (h1 : id < T.length) (h : ¬ allZ (T.getD id.toNat [])) : noneB T id = false := by
  unfold noneB
  rw [free_f (hT _ (getD_mem h0 h1)) h, Bool.or_false, Bool.or_eq_false_iff, decide_eq_false_iff_not, decide_eq_false_iff_not]
  omega
theorem none_at (h : noneB T id = false) : 0 ≤ id ∧ id < T.length ∧ ¬ allZ (T.getD id.toNat []) := by
  unfold noneB at h
  rw [Bool.or_eq_false_iff, Bool.or_eq_false_iff, decide_eq_false_iff_not, decide_eq_false_iff_not] at h
  have h1 : 0 ≤ id := by omega
  have h2 : id < T.length := by omega
  refine ⟨h1, h2, fun z => ?_⟩
  rw [free_t (hT _ (getD_mem h1 h2)) z] at h
  cases h.2
end

/-! ### Take, Back, Revoke -/
theorem tak_no {T : Tab} {id g w k : Int} (h : takE T id g w = k) (hk : k ≠ 0) : takT T id g w = T := if_neg (by rw [h]; exact hk)
theorem tak_none {T : Tab} {id g w : Int} (h : noneB T id = true) : takE T id g w = 4 := if_pos h
theorem tak_wrong {T : Tab} {id g w : Int} (h : noneB T id = false) (hw : (T.getD id.toNat []).getD 2 0 ≠ g ∨ (w = 1 ∧ (T.getD id.toNat []).getD 3 0 = 0)) : takE T id g w = 7 := by
  unfold takE; rw [if_neg (by rw [h]; simp), if_pos hw]
theorem tak_full {T : Tab} {id g w : Int} (h : noneB T id = false) (hw : ¬ ((T.getD id.toNat []).getD 2 0 ≠ g ∨ (w = 1 ∧ (T.getD id.toNat []).getD 3 0 = 0))) (hu : (T.getD id.toNat []).getD 4 0 = 1000) : takE T id g w = 3 := by
  unfold takE; rw [if_neg (by rw [h]; simp), if_neg hw, if_pos hu]
theorem tak_ok {T : Tab} {id g w : Int} (h : noneB T id = false) (hw : ¬ ((T.getD id.toNat []).getD 2 0 ≠ g ∨ (w = 1 ∧ (T.getD id.toNat []).getD 3 0 = 0))) (hu : ¬ (T.getD id.toNat []).getD 4 0 = 1000) :
    takE T id g w = 0 ∧ takT T id g w = T.modify id.toNat (fun r => r.set (4 : Int).toNat (W ((T.getD id.toNat []).getD 4 0 + 1))) := by
  have e : takE T id g w = 0 := by unfold takE; rw [if_neg (by rw [h]; simp), if_neg hw, if_neg hu]
  exact ⟨e, if_pos e⟩
theorem bac_no {T : Tab} {id g k : Int} (h : bacE T id g = k) (hk : k ≠ 0) : bacT T id g = T := if_neg (by rw [h]; exact hk)
theorem bac_none {T : Tab} {id g : Int} (h : noneB T id = true) : bacE T id g = 4 := if_pos h
theorem bac_wrong {T : Tab} {id g : Int} (h : noneB T id = false) (hw : (T.getD id.toNat []).getD 2 0 ≠ g) : bacE T id g = 7 := by
  unfold bacE; rw [if_neg (by rw [h]; simp), if_pos hw]
theorem bac_zero {T : Tab} {id g : Int} (h : noneB T id = false) (hw : ¬ (T.getD id.toNat []).getD 2 0 ≠ g) (hu : (T.getD id.toNat []).getD 4 0 = 0) : bacE T id g = 6 := by
  unfold bacE; rw [if_neg (by rw [h]; simp), if_neg hw, if_pos hu]
theorem bac_ok {T : Tab} {id g : Int} (h : noneB T id = false) (hw : ¬ (T.getD id.toNat []).getD 2 0 ≠ g) (hu : ¬ (T.getD id.toNat []).getD 4 0 = 0) :
    bacE T id g = 0 ∧ bacT T id g = T.modify id.toNat (fun r => r.set (4 : Int).toNat (W ((T.getD id.toNat []).getD 4 0 - 1))) := by
  have e : bacE T id g = 0 := by unfold bacE; rw [if_neg (by rw [h]; simp), if_neg hw, if_neg hu]
  exact ⟨e, if_pos e⟩
theorem rev_no {T : Tab} {id o k : Int} (h : revE T id o = k) (hk : k ≠ 0) : revT T id o = T := if_neg (by rw [h]; exact hk)
theorem rev_none {T : Tab} {id o : Int} (h : noneB T id = true) : revE T id o = 4 := if_pos h
theorem rev_wrong {T : Tab} {id o : Int} (h : noneB T id = false) (hw : (T.getD id.toNat []).getD 0 0 ≠ o) : revE T id o = 7 := by
  unfold revE; rw [if_neg (by rw [h]; simp), if_pos hw]
theorem rev_busy {T : Tab} {id o : Int} (h : noneB T id = false) (hw : ¬ (T.getD id.toNat []).getD 0 0 ≠ o) (hu : 0 < (T.getD id.toNat []).getD 4 0) : revE T id o = 9 := by
  unfold revE; rw [if_neg (by rw [h]; simp), if_neg hw, if_pos hu]
theorem rev_ok {T : Tab} {id o : Int} (h : noneB T id = false) (hw : ¬ (T.getD id.toNat []).getD 0 0 ≠ o) (hu : ¬ 0 < (T.getD id.toNat []).getD 4 0) :
    revE T id o = 0 ∧ revT T id o = T.modify id.toNat (fun _ => Z5) := by
  have e : revE T id o = 0 := by unfold revE; rw [if_neg (by rw [h]; simp), if_neg hw, if_neg hu]
  exact ⟨e, if_pos e⟩

/-! ### Offer -/
theorem off_no {T : Tab} {o p t k : Int} (h : offE T o p t = k) (hk : k ≠ 0) : offI T o p t = 0 ∧ ∀ w, offT T o p t w = T :=
  ⟨if_neg (by rw [h]; exact hk), fun w => if_neg (by rw [h]; exact hk)⟩
def argB (o p t : Int) : Prop := ¬ (1 ≤ o ∧ o ≤ 16) ∨ ¬ (1 ≤ t ∧ t ≤ 16) ∨ o = t ∨ p < 0 ∨ 65536 ≤ p
theorem arg_iff (o p t : Int) : (!guestB o || !guestB t || decide (o = t) || decide (p < 0) || decide (65536 ≤ p)) = true ↔ argB o p t := by
  unfold guestB argB
  simp only [Bool.or_eq_true, Bool.not_eq_true', Bool.and_eq_false_iff, decide_eq_false_iff_not, decide_eq_true_eq]
  omega
theorem off_arg {T : Tab} {o p t : Int} (h : argB o p t) : offE T o p t = 1 := if_pos ((arg_iff o p t).2 h)
theorem off_twice {T : Tab} {o p t : Int} (h : ¬ argB o p t) (h1 : 0 < ((idxT (sameR o p t) 0 T).length : Int)) : offE T o p t = 5 := by
  unfold offE; rw [if_neg (mt (arg_iff o p t).1 h), if_pos (by intro e; rw [e] at h1; exact absurd h1 (by decide))]
theorem off_full {T : Tab} {o p t : Int} (h : ¬ argB o p t) (h1 : ¬ 0 < ((idxT (sameR o p t) 0 T).length : Int)) (h2 : ((idxT freeB 0 T).length : Int) = 0) : offE T o p t = 3 := by
  have e : idxT (sameR o p t) 0 T = [] := List.length_eq_zero_iff.1 (by omega)
  have e2 : idxT freeB 0 T = [] := List.length_eq_zero_iff.1 (by omega)
  unfold offE; rw [if_neg (mt (arg_iff o p t).1 h), if_neg (by rw [e]; simp), if_pos e2]
theorem off_ok {T : Tab} {o p t : Int} (h : ¬ argB o p t) (h1 : ¬ 0 < ((idxT (sameR o p t) 0 T).length : Int)) (h2 : ¬ ((idxT freeB 0 T).length : Int) = 0) :
    offE T o p t = 0 ∧ offI T o p t = ((idxT freeB 0 T).getD 0 []).getD 0 0 ∧ ∀ w, offT T o p t w = T.modify (((idxT freeB 0 T).getD 0 []).getD 0 0).toNat fun _ => [o, p, t, w, 0] := by
  have e : idxT (sameR o p t) 0 T = [] := List.length_eq_zero_iff.1 (by omega)
  have e1 : offE T o p t = 0 := by
    unfold offE; rw [if_neg (mt (arg_iff o p t).1 h), if_neg (by rw [e]; simp), if_neg (by intro e2; rw [e2] at h2; exact h2 rfl)]
  have e2 : offI T o p t = ((idxT freeB 0 T).getD 0 []).getD 0 0 := if_pos e1
  refine ⟨e1, e2, fun w => ?_⟩
  unfold offT; rw [if_pos e1, e2]
theorem offT_len (T : Tab) (o p t w : Int) : (offT T o p t w).length = T.length := by unfold offT; split <;> simp
theorem takT_len (T : Tab) (id g w : Int) : (takT T id g w).length = T.length := by unfold takT; split <;> simp
theorem bacT_len (T : Tab) (id g : Int) : (bacT T id g).length = T.length := by unfold bacT; split <;> simp
theorem revT_len (T : Tab) (id o : Int) : (revT T id o).length = T.length := by unfold revT; split <;> simp
theorem clrG_len (g : Int) (T : Tab) : (clrG g T).length = T.length := List.length_map _

/-! ### Drop -/
theorem zero_step {T L : Tab} {k : Int} (h : 0 ≤ k) (hi : k < L.length) : zeroAt T (L.drop k.toNat) = zeroAt (T.modify ((L.getD k.toNat []).getD 0 0).toNat fun _ => Z5) (L.drop (k + 1).toNat) := by
  rw [drop_step h hi]; rfl
theorem zero_end {T L : Tab} {k : Int} (hi : ¬ k < L.length) : zeroAt T (L.drop k.toNat) = T := by
  rw [List.drop_of_length_le (by omega)]; rfl
theorem zero_len : ∀ (L T : Tab), (zeroAt T L).length = T.length
  | [], _ => rfl
  | r :: L, T => by
    show (zeroAt (T.modify _ _) L).length = _
    rw [zero_len L]; simp
theorem in_at {L : Tab} {n k : Int} (h : inB L n = true) (h0 : 0 ≤ k) (h1 : k < L.length) : 0 ≤ (L.getD k.toNat []).getD 0 0 ∧ (L.getD k.toNat []).getD 0 0 < n := by
  have := List.all_eq_true.1 h _ (getD_mem h0 h1)
  rwa [Bool.and_eq_true, decide_eq_true_eq, decide_eq_true_eq] at this
theorem idx_in (p : List Int → Bool) (T : Tab) : inB (idxT p 0 T) T.length = true := by
  refine List.all_eq_true.2 fun r hr => ?_
  obtain ⟨k, h1, h2, _⟩ := idx_mem hr
  subst h2
  simp; omega
theorem zero_app (A : Tab) : ∀ (L T : Tab), (∀ r ∈ L, (A.length : Int) ≤ r.getD 0 0) → zeroAt (A ++ T) L = A ++ zeroAt T (L.map fun r => [r.getD 0 0 - A.length])
  | [], T, _ => rfl
  | r :: L, T, h => by
    have hr := h r (by simp)
    show zeroAt ((A ++ T).modify (r.getD 0 0).toNat fun _ => Z5) L = _
    have e : (A ++ T).modify (r.getD 0 0).toNat (fun _ => Z5) = A ++ T.modify (r.getD 0 0 - A.length).toNat fun _ => Z5 := by
      obtain ⟨k, hk⟩ : ∃ k : Nat, r.getD 0 0 = A.length + k := ⟨(r.getD 0 0 - A.length).toNat, by omega⟩
      rw [hk, show ((A.length : Int) + k).toNat = A.length + k by omega, show ((A.length : Int) + k - A.length).toNat = k by omega]
      clear hk hr h
      induction A with
      | nil => simp
      | cons a A ih => rw [List.length_cons, List.cons_append, show A.length + 1 + k = (A.length + k) + 1 by omega, List.modify_succ_cons, ih]; rfl
    rw [e, zero_app A L _ fun s hs => h s (List.mem_cons_of_mem _ hs)]
    rfl
theorem idx_shift (p : List Int → Bool) : ∀ (T : Tab) (i : Int), (idxT p (i + 1) T).map (fun r => [r.getD 0 0 - 1]) = idxT p i T
  | [], _ => rfl
  | s :: T, i => by
    rw [idxT, idxT]
    split
    · rw [List.map_cons, idx_shift p T (i + 1)]
      simp
    · exact idx_shift p T (i + 1)
theorem clr_zero (g : Int) : ∀ T : Tab, zeroAt T (idxT (ofG g) 0 T) = clrG g T
  | [] => rfl
  | s :: T => by
    have hmem : ∀ r ∈ idxT (ofG g) (0 + 1) T, (([s] : Tab).length : Int) ≤ r.getD 0 0 := fun r hr => by
      obtain ⟨k, _, h2, _⟩ := idx_mem hr
      subst h2; simp; omega
    have hs : (idxT (ofG g) (0 + 1) T).map (fun r => [r.getD 0 0 - (([s] : Tab).length : Int)]) = idxT (ofG g) 0 T := idx_shift (ofG g) T 0
    rw [idxT]
    unfold clrG
    rw [List.map_cons]
    split
    · show zeroAt ([Z5] ++ T) (idxT (ofG g) (0 + 1) T) = _
      have := zero_app [Z5] (idxT (ofG g) (0 + 1) T) T hmem
      rw [this]
      show [Z5] ++ zeroAt T ((idxT (ofG g) (0 + 1) T).map (fun r => [r.getD 0 0 - (([s] : Tab).length : Int)])) = _
      rw [hs, clr_zero g T]; rfl
    · show zeroAt ([s] ++ T) (idxT (ofG g) (0 + 1) T) = _
      rw [zero_app [s] _ T hmem, hs, clr_zero g T]; rfl
end Go.SF.C19
