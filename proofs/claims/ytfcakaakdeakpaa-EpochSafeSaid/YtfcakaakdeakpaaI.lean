/- some's inner loop puts a key in its place. -/
import Derived.Test.YtfcakaakdeakpaaP
namespace Go.SF.C10
open Go.SF
set_option linter.unusedVariables false
theorem mod_at (f : List Int → List Int) (y : List Int) (D : Tab) : ∀ A : Tab, ∀ n, A.length = n → (A ++ y :: D).modify n f = A ++ f y :: D
  | [], _, rfl => rfl
  | a :: A, _, rfl => by
    show (a :: (A ++ y :: D)).modify (A.length + 1) f = _
    rw [List.modify_succ_cons, mod_at f y D A _ rfl]; rfl
theorem ins_at {x : Int} : ∀ (i : Nat) (B D : Tab) (y : Int), B.length = i → (∀ r ∈ B, [r.getD 0 0] = r) → B.Pairwise (fun a b => hdK a < hdK b) →
    (shA i x (B ++ [y] :: D)).modify (shI i x (B ++ [y] :: D)) (fun r => r.set 0 x) = (B.filter fun r => !decide (x < hdK r)) ++ [x] :: ((B.filter fun r => decide (x < hdK r)) ++ D)
  | 0, B, D, y, hl, h1, h2 => by
    obtain rfl := List.length_eq_zero_iff.1 hl
    rfl
  | i + 1, B, D, y, hl, h1, h2 => by
    obtain ⟨C, b, rfl⟩ : ∃ C b, B = C ++ [b] := ⟨B.dropLast, B.getLast (by intro e; rw [e] at hl; cases hl), (List.dropLast_concat_getLast _).symm⟩
    have hC : C.length = i := by simp at hl; exact hl
    have hb : [b.getD 0 0] = b := h1 b (by simp)
    have hk : hdK b = b.getD 0 0 := by rw [← hb]; rfl
    have hcell : cell ((C ++ [b]) ++ [y] :: D) i = b.getD 0 0 := by
      simp [cell, List.getD, ← hC]
    have hp := List.pairwise_append.1 h2
    rw [shA, shI, hcell]
    by_cases hx : x < b.getD 0 0
    · rw [if_pos hx, if_pos hx]
      have e : ((C ++ [b]) ++ [y] :: D).modify (i + 1) (fun r => r.set 0 (b.getD 0 0)) = C ++ [b.getD 0 0] :: ([b.getD 0 0] :: D) := by
        rw [mod_at _ _ _ _ _ (by simp [hC])]
        simp only [List.append_assoc, List.singleton_append, List.set_cons_zero]
        rw [hb]
      rw [e, ins_at i C ([b.getD 0 0] :: D) _ hC (fun r hr => h1 r (by simp [hr])) hp.1]
      rw [List.filter_append, List.filter_append]
      have g1 : [b].filter (fun r => !decide (x < hdK r)) = [] := by rw [List.filter_cons_of_neg (by rw [hk, Bool.not_eq_true', decide_eq_false_iff_not]; exact fun h => h hx)]; rfl
      have g2 : [b].filter (fun r => decide (x < hdK r)) = [b] := by rw [List.filter_cons_of_pos (by rw [hk]; exact decide_eq_true hx)]; rfl
      rw [g1, g2, List.append_nil, hb, List.append_assoc]
      rfl
    · rw [if_neg hx, if_neg hx]
      have e : ((C ++ [b]) ++ [y] :: D).modify (i + 1) (fun r => r.set 0 x) = (C ++ [b]) ++ [x] :: D := by
        rw [mod_at _ _ _ _ _ (by simp [hC])]; rfl
      rw [e]
      have f1 : (C ++ [b]).filter (fun r => !decide (x < hdK r)) = C ++ [b] := by
        refine List.filter_eq_self.2 fun r hr => ?_
        simp only [Bool.not_eq_true', decide_eq_false_iff_not]
        rcases List.mem_append.1 hr with h | h
        · have := hp.2.2 r h b (by simp); omega
        · simp at h; subst h; omega
      have f2 : (C ++ [b]).filter (fun r => decide (x < hdK r)) = [] := by
        refine List.filter_eq_nil_iff.2 fun r hr => ?_
        simp only [decide_eq_true_eq]
        rcases List.mem_append.1 hr with h | h
        · have := hp.2.2 r h b (by simp); omega
        · simp at h; subst h; omega
      rw [f1, f2]; rfl
theorem seenT_app (p : List Int → Bool) (A B : Tab) : seenT p (A ++ B) = seenT p A ++ seenT p B := by
  simp only [seenT, keyT, List.filter_append, List.map_append]
theorem seenT_mem {p : List Int → Bool} {A : Tab} {r : List Int} (h : r ∈ seenT p A) : ∃ s ∈ A, r = [hdK s] := by
  obtain ⟨s, hs, rfl⟩ := List.mem_map.1 h
  exact ⟨s, (List.mem_filter.1 (List.mem_filter.1 hs).1).1, rfl⟩
theorem clr_other {M : Tab} {x : Int} (h : ∀ r ∈ M, hdK r ≠ x) : clrT M x = M := by
  unfold clrT
  exact (List.map_congr_left fun r hr => if_neg (h r hr)).trans (List.map_id' M)
theorem seen_step {p : List Int → Bool} {M : Tab} {row : List Int} (hM : M.Pairwise fun a b => hdK a < hdK b) (hr : row ∈ M) (h1 : lastK row = 1)
    (hp : p (row.dropLast ++ [0]) = true) (hk : hdK (row.dropLast ++ [0]) = hdK row) :
    seenT p (clrT M (hdK row)) = ((seenT p M).filter fun r => !decide (hdK row < hdK r)) ++ [hdK row] :: ((seenT p M).filter fun r => decide (hdK row < hdK r)) := by
  obtain ⟨A, B, rfl⟩ := List.append_of_mem hr
  have hs := List.pairwise_append.1 hM
  have hB := List.pairwise_cons.1 hs.2.1
  have hA : ∀ r ∈ A, hdK r < hdK row := fun r h => hs.2.2 r h row (List.mem_cons_self ..)
  have e1 : clrT (A ++ row :: B) (hdK row) = A ++ [row.dropLast ++ [0]] ++ B := by
    have a1 := clr_other (M := A) (x := hdK row) fun r h => by have := hA r h; omega
    have a2 := clr_other (M := B) (x := hdK row) fun r h => by have := hB.1 r h; omega
    unfold clrT at a1 a2 ⊢
    rw [List.map_append, List.map_cons, a1, a2, if_pos rfl]; simp
  have e2 : seenT p [row.dropLast ++ [0]] = [[hdK row]] := by
    have : lastK (row.dropLast ++ [0]) = 0 := by simp [lastK]
    simp [seenT, keyT, this, hp, hk]
  have e3 : seenT p [row] = [] := by simp [seenT, keyT, h1]
  have e4 : seenT p (A ++ row :: B) = seenT p A ++ seenT p B := by
    rw [show A ++ row :: B = A ++ [row] ++ B by simp, seenT_app, seenT_app, e3, List.append_nil]
  have fa : ∀ r ∈ seenT p A, hdK r < hdK row := fun r h => by
    obtain ⟨s, hs, rfl⟩ := seenT_mem h
    exact hA s hs
  have fb : ∀ r ∈ seenT p B, hdK row < hdK r := fun r h => by
    obtain ⟨s, hs, rfl⟩ := seenT_mem h
    exact hB.1 s hs
  rw [e1, seenT_app, seenT_app, e2, e4, List.filter_append, List.filter_append]
  rw [List.filter_eq_self.2 fun r h => by have := fa r h; simp; omega, List.filter_eq_nil_iff.2 fun r h => by have := fb r h; simp; omega,
    List.filter_eq_nil_iff.2 fun r h => by have := fa r h; simp; omega, List.filter_eq_self.2 fun r h => by have := fb r h; simp; omega]
  simp
theorem seenT_rise {p : List Int → Bool} {M : Tab} (h : M.Pairwise fun a b => hdK a < hdK b) : (seenT p M).Pairwise fun a b => hdK a < hdK b := by
  unfold seenT keyT
  rw [List.pairwise_map]
  exact ((h.filter _).filter _).imp fun {a b} hab => hab
theorem seenT_one {p : List Int → Bool} {M : Tab} : ∀ r ∈ seenT p M, [r.getD 0 0] = r := fun r h => by
  obtain ⟨s, _, rfl⟩ := seenT_mem h
  rfl
theorem clrAll_clr {M : Tab} (k : Int) : clrAll (clrT M k) = clrAll M := by
  unfold clrAll clrT
  rw [List.map_map]
  refine List.map_congr_left fun r hr => ?_
  simp only [Function.comp]
  split
  · simp
  · rfl
theorem clrT_len (M : Tab) (k : Int) : (clrT M k).length = M.length := List.length_map _
theorem keyT_clr {p : List Int → Bool} {M : Tab} {k : Int} (h : ∀ r ∈ M, p (r.dropLast ++ [0]) = p r ∧ hdK (r.dropLast ++ [0]) = hdK r) : keyT p (clrT M k) = keyT p M := by
  unfold keyT clrT
  induction M with
  | nil => rfl
  | cons r M ih =>
    have ih := ih fun s hs => h s (List.mem_cons_of_mem _ hs)
    have h1 := h r (List.mem_cons_self ..)
    rw [List.map_cons, List.filter_cons, List.filter_cons]
    have e : p (if hdK r = k then r.dropLast ++ [0] else r) = p r ∧ hdK (if hdK r = k then r.dropLast ++ [0] else r) = hdK r := by
      split
      · exact h1
      · exact ⟨rfl, rfl⟩
    rw [e.1]
    split
    · rw [List.map_cons, List.map_cons, ih, e.2]
    · exact ih
theorem seenT_flag (p : List Int → Bool) (A : Tab) : seenT p (flagT A) = [] := by
  unfold seenT flagT
  rw [List.filter_eq_nil_iff.2 fun r hr => by obtain ⟨s, _, rfl⟩ := List.mem_map.1 hr; simp [lastK]]
  rfl
theorem flagT_len (A : Tab) : (flagT A).length = A.length := List.length_map _
theorem unflag_clr_flag (A : Tab) : unflagT (clrAll (flagT A)) = A := by
  unfold unflagT clrAll flagT
  rw [List.map_map, List.map_map]
  refine (List.map_congr_left fun r hr => ?_).trans (List.map_id' A)
  simp
theorem keyT_flag {p : List Int → Bool} {A : Tab} (h : ∀ r ∈ A, p (r ++ [1]) = p r ∧ hdK (r ++ [1]) = hdK r) : keyT p (flagT A) = keyT p A := by
  unfold keyT flagT
  induction A with
  | nil => rfl
  | cons r A ih =>
    have ih := ih fun s hs => h s (List.mem_cons_of_mem _ hs)
    have h1 := h r (List.mem_cons_self ..)
    rw [List.map_cons, List.filter_cons, List.filter_cons, h1.1]
    split
    · rw [List.map_cons, List.map_cons, ih, h1.2]
    · exact ih
theorem keyT_len (p : List Int → Bool) (A : Tab) : (keyT p A).length ≤ A.length := by
  unfold keyT
  rw [List.length_map]
  exact List.length_filter_le ..
theorem old_flag (n : Int) {a b : Int} : oldP n ([a, b] ++ [1]) = oldP n [a, b] := rfl
/-- None is left. -/
theorem rem_end {M : Tab} (h : remT M = []) (h01 : ∀ r ∈ M, lastK r = 0 ∨ lastK r = 1) : (M.filter fun r => decide (lastK r = 0)) = M := by
  refine List.filter_eq_self.2 fun r hr => decide_eq_true ?_
  rcases h01 r hr with h0 | h1
  · exact h0
  · exact absurd (h ▸ List.mem_filter.2 ⟨hr, by simp [h1]⟩ : r ∈ ([] : Tab)) (by simp)
theorem seen_end {p : List Int → Bool} {M : Tab} (h : remT M = []) (h01 : ∀ r ∈ M, lastK r = 0 ∨ lastK r = 1) : seenT p M = keyT p M := by
  unfold seenT; rw [rem_end h h01]
theorem clr_end {M : Tab} (h : remT M = []) (h01 : ∀ r ∈ M, lastK r = 0 ∨ lastK r = 1) (hne : ∀ r ∈ M, r ≠ []) : clrAll M = M := by
  unfold clrAll
  refine (List.map_congr_left fun r hr => ?_).trans (List.map_id' M)
  have h0 : lastK r = 0 := by
    have := rem_end h h01 ▸ hr
    exact of_decide_eq_true (List.mem_filter.1 this).2
  have e := List.dropLast_concat_getLast (hne r hr)
  have : r.getLast (hne r hr) = 0 := by rw [← h0, lastK, List.getLastD_eq_getLast?, List.getLast?_eq_some_getLast (hne r hr)]; rfl
  rw [this] at e
  exact e
theorem find_row {M : Tab} {k : Int} (hM : M.Pairwise fun a b => hdK a < hdK b) (h : ((findK M k).length : Int) = 1) : ∃ row, row ∈ M ∧ hdK row = k ∧ findK M k = [row] := by
  obtain ⟨row, hr⟩ := List.length_eq_one_iff.1 (by omega : (findK M k).length = 1)
  have : row ∈ findK M k := by rw [hr]; simp
  have h2 := List.mem_filter.1 this
  exact ⟨row, h2.1, of_decide_eq_true h2.2, hr⟩
theorem rem_clr {M : Tab} {row : List Int} (hr : row ∈ M) (h1 : lastK row = 1) : (remT (clrT M (hdK row))).length < (remT M).length := by
  unfold remT clrT
  rw [← List.countP_eq_length_filter, ← List.countP_eq_length_filter, List.countP_map]
  have key : ∀ L : Tab, L.countP ((fun r => decide (lastK r = 1)) ∘ fun r => if hdK r = hdK row then r.dropLast ++ [0] else r) ≤ L.countP fun r => decide (lastK r = 1) := fun L => by
    refine List.countP_mono_left fun r _ h => ?_
    simp only [Function.comp] at h
    split at h
    · simp [lastK] at h
    · exact h
  obtain ⟨A, B, rfl⟩ := List.append_of_mem hr
  rw [List.countP_append, List.countP_append, List.countP_cons, List.countP_cons]
  have a := key A
  have b := key B
  simp only [Function.comp, if_true, h1] at a b ⊢
  have : lastK (row.dropLast ++ [0]) = 0 := by simp [lastK]
  simp only [this] at a b ⊢
  simp at a b ⊢
  omega
/-- An iterator's rows, here. -/
abbrev K3 : List CK := .i .i64 :: ([.i .i64] ++ [.b])
theorem three {r : List Int} (h : okRow K3 r) : ∃ a b c, r = [a, b, c] ∧ (c = 0 ∨ c = 1) := by
  match r, h with
  | [a, b, c], h => exact ⟨a, b, c, rfl, h.2.2.1⟩
section
variable {M B : Tab} {x : Int} {p : List Int → Bool} (hM : M.Pairwise fun a b => hdK a < hdK b) (hr : ∀ r ∈ M, okRow K3 r)
include hr
theorem out_end (h : ¬ (0 : Int) < (remT M).length) (e : B = seenT p M) : clrAll M = M ∧ keyT p M = B := by
  have h0 : remT M = [] := List.length_eq_zero_iff.1 (by omega)
  have h01 : ∀ r ∈ M, lastK r = 0 ∨ lastK r = 1 := fun r hm => by obtain ⟨a, b, c, rfl, h⟩ := three (hr r hm); exact h
  refine ⟨clr_end h0 h01 fun r hm => ?_, by rw [e, seen_end h0 h01]⟩
  obtain ⟨a, b, c, rfl, _⟩ := three (hr r hm); simp
theorem out_key (h : ∀ a b c d, p [a, b, c] = p [a, b, d]) : keyT p (clrT M x) = keyT p M :=
  keyT_clr fun r hm => by obtain ⟨a, b, c, rfl, _⟩ := three (hr r hm); exact ⟨h .., rfl⟩
include hM
theorem out_row (h1 : ((findK M x).length : Int) = 1) (h2 : ((findK M x).getD (0 : Int).toNat []).getD 2 0 = 1) : ∃ b, [x, b, 1] ∈ M ∧ findK M x = [[x, b, 1]] := by
  obtain ⟨row, g1, g2, g3⟩ := find_row hM h1
  obtain ⟨a, b, c, rfl, _⟩ := three (hr row g1)
  rw [g3] at h2
  have : c = 1 := h2
  have : a = x := g2
  subst_vars
  exact ⟨b, g1, g3⟩
theorem out_rem (h1 : ((findK M x).length : Int) = 1) (h2 : ((findK M x).getD (0 : Int).toNat []).getD 2 0 = 1) : ((remT (clrT M x)).length : Int) < (remT M).length := by
  obtain ⟨b, g1, _⟩ := out_row hM hr h1 h2
  have := rem_clr g1 rfl
  exact Int.ofNat_lt.2 this
theorem out_more (h1 : ((findK M x).length : Int) = 1) (h2 : ((findK M x).getD (0 : Int).toNat []).getD 2 0 = 1) (hp : ∀ b, [x, b, 1] ∈ M → p [x, b, 0] = true) (e : B = seenT p M) :
    (shA (B.length : Int).toNat x (B ++ [[x]])).modify (shI (B.length : Int).toNat x (B ++ [[x]]) : Int).toNat (fun r => r.set (0 : Int).toNat x) = seenT p (clrT M x) := by
  obtain ⟨b, g1, _⟩ := out_row hM hr h1 h2
  have a := seen_step (p := p) hM g1 rfl (hp b g1) rfl
  have i := ins_at (x := x) B.length B [] x rfl (fun r hm => by rw [e] at hm; exact seenT_one r hm) (by rw [e]; exact seenT_rise hM)
  rw [List.append_nil] at i
  show (shA B.length x (B ++ [[x]])).modify (shI B.length x (B ++ [[x]])) (fun r => r.set 0 x) = _
  rw [i, e]
  exact a.symm
end
theorem seenT_len (p : List Int → Bool) (A : Tab) : (seenT p A).length ≤ A.length := Nat.le_trans (keyT_len p _) (List.length_filter_le ..)
theorem len_of {X Y : Tab} {n : Nat} {f : List Int → List Int} (h : X.modify n f = Y) : X.length = Y.length := by rw [← h, List.length_modify]
theorem out_less {M : Tab} {x : Int} {p : List Int → Bool} (hM : M.Pairwise fun a b => hdK a < hdK b) (hr : ∀ r ∈ M, okRow K3 r) (h1 : ((findK M x).length : Int) = 1) (h2 : ((findK M x).getD (0 : Int).toNat []).getD 2 0 = 1) (hp : ∀ b, [x, b, 1] ∈ M → p [x, b, 0] = false) : seenT p (clrT M x) = seenT p M := by
  obtain ⟨b, g1, _⟩ := out_row hM hr h1 h2
  have hp := hp b g1
  obtain ⟨A, B, rfl⟩ := List.append_of_mem g1
  have hs := List.pairwise_append.1 hM
  have hB := List.pairwise_cons.1 hs.2.1
  have a1 := clr_other (M := A) (x := x) fun r h => by have : hdK r < x := hs.2.2 r h _ (List.mem_cons_self ..); omega
  have a2 := clr_other (M := B) (x := x) fun r h => by have : x < hdK r := hB.1 r h; omega
  have e1 : clrT (A ++ [x, b, 1] :: B) x = A ++ [[x, b, 0]] ++ B := by
    unfold clrT at a1 a2 ⊢
    rw [List.map_append, List.map_cons, a1, a2, if_pos (show hdK [x, b, 1] = x from rfl)]; simp
  have e2 : seenT p [[x, b, 0]] = [] := by simp [seenT, keyT, lastK, hp]
  have e3 : seenT p [[x, b, 1]] = [] := by simp [seenT, keyT, lastK]
  rw [e1, show A ++ [x, b, 1] :: B = A ++ [[x, b, 1]] ++ B by simp, seenT_app, seenT_app, seenT_app, seenT_app, e2, e3]
theorem find_clr {M : Tab} {x b : Int} (hr : ∀ r ∈ M, okRow K3 r) (h : findK M x = [[x, b, 1]]) : findK (clrT M x) x = [[x, b, 0]] := by
  have e : findK (clrT M x) x = clrT (findK M x) x := by
    unfold findK clrT
    rw [List.filter_map]
    congr 1
    refine List.filter_congr fun r hm => ?_
    obtain ⟨a, b, c, rfl, _⟩ := three (hr r hm)
    simp only [Function.comp]
    split <;> rfl
  rw [e, h]; simp [clrT, hdK]
theorem row_one {M : Tab} {x b c : Int} (h : findK M x = [[x, c, 1]]) (hm : [x, b, 1] ∈ M) : b = c := by
  have : [x, b, 1] ∈ findK M x := List.mem_filter.2 ⟨hm, by simp [hdK]⟩
  rw [h] at this; simpa using this
theorem two {r : List Int} (h : okRow [.i .i64, .i .i64] r) : ∃ a b, r = [a, b] := by
  match r, h with
  | [a, b], h => exact ⟨a, b, rfl⟩
theorem flag_key {A : Tab} {p : List Int → Bool} (hr : ∀ r ∈ A, okRow [.i .i64, .i .i64] r) (h : ∀ a b, p [a, b, 1] = p [a, b]) : keyT p (flagT A) = keyT p A :=
  keyT_flag fun r hm => by obtain ⟨a, b, rfl⟩ := two (hr r hm); exact ⟨h a b, rfl⟩
end Go.SF.C10
