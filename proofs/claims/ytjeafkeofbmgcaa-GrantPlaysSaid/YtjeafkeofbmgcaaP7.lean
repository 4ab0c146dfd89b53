/- Who is linked, as the law says; rows of grants stay right, in plain Lean. -/
import Derived.Test.YtjeafkeofbmgcaaP6
namespace Go.SF.C19
open Go.SF
set_option linter.unusedVariables false

variable {G T : Tab} {a b c n i k : Int}
theorem link_iff (hG : okGB G = true) : linkB G a b = true ↔ guestB a = true ∧ guestB b = true ∧ Conn G a b := by
  unfold linkB
  simp only [Bool.and_eq_true]
  constructor
  · rintro ⟨⟨h1, h2⟩, h3⟩
    simp only [guestB, Bool.and_eq_true, decide_eq_true_eq] at h1 h2
    exact ⟨by simp [guestB, h1], by simp [guestB, h2], (dfs_conn (okGB_ok hG).1 ⟨by omega, by omega⟩ ⟨by omega, by omega⟩).1 h3⟩
  · rintro ⟨h1, h2, h3⟩
    have h1' := h1; have h2' := h2
    simp only [guestB, Bool.and_eq_true, decide_eq_true_eq] at h1 h2
    exact ⟨⟨h1', h2'⟩, (dfs_conn (okGB_ok hG).1 ⟨by omega, by omega⟩ ⟨by omega, by omega⟩).2 h3⟩
theorem link_symm (hG : okGB G = true) : linkB G a b = linkB G b a := by
  rw [Bool.eq_iff_iff, link_iff hG, link_iff hG]
  exact ⟨fun h => ⟨h.2.1, h.1, h.2.2.symm⟩, fun h => ⟨h.2.1, h.1, h.2.2.symm⟩⟩
theorem link_refl (hG : okGB G = true) (h0 : 1 ≤ a) (h1 : a ≤ 16) : linkB G a a = true :=
  (link_iff hG).2 ⟨by simp [guestB, h0, h1], by simp [guestB, h0, h1], .refl⟩
theorem link_trans (hG : okGB G = true) (h : linkB G a b = true) (h' : linkB G b c = true) : linkB G a c = true := by
  rw [link_iff hG] at *
  exact ⟨h.1, h'.2.1, h.2.2.trans h'.2.2⟩
theorem link_l (h : ¬ (1 ≤ a ∧ a ≤ 16)) : linkB G a b = false := by
  unfold linkB; rw [show guestB a = false by simp only [guestB, Bool.and_eq_false_iff, decide_eq_false_iff_not]; omega]; rfl
theorem link_r (h : ¬ (1 ≤ b ∧ b ≤ 16)) : linkB G a b = false := by
  unfold linkB; rw [show guestB b = false by simp only [guestB, Bool.and_eq_false_iff, decide_eq_false_iff_not]; omega, Bool.and_false]; rfl
theorem conn_alone (h : ∀ y, ¬ edge G a y) (hc : Conn G a b) : a = b := by
  induction hc with
  | refl => rfl
  | step _ e ih => subst ih; exact absurd e (h _)
theorem clr_alone (y : Int) : ¬ edge (clrG a G) a y := by
  rintro ⟨r, hr, hl, h⟩
  obtain ⟨s, hs, rfl⟩ := List.mem_map.1 hr
  split at hl
  · simp [liveB] at hl
  · rename_i hn
    rw [if_neg hn] at h
    apply hn
    unfold ofG
    unfold liveB at hl
    rw [hl, Bool.true_and, Bool.or_eq_true, decide_eq_true_eq, decide_eq_true_eq]
    exact h.elim (fun h => .inl h.1) (fun h => .inr h.1)
theorem all_clr (hG : okGB G = true) : okGB (clrG a G) = true := by
  refine List.all_eq_true.2 fun r hr => ?_
  obtain ⟨s, hs, rfl⟩ := List.mem_map.1 hr
  split
  · rfl
  · exact List.all_eq_true.1 hG s hs
theorem link_drop (hG : okGB G = true) (h : ¬ a = b) : linkB (clrG a G) a b = false := by
  cases e : linkB (clrG a G) a b with
  | false => rfl
  | true => exact absurd (conn_alone clr_alone ((link_iff (all_clr hG)).1 e).2.2) h
/-- Rows that are changed at one place. -/
theorem mem_mod1 {f : List Int → List Int} : ∀ {A : Tab} {n : Nat} {r : List Int}, r ∈ A.modify n f → r ∈ A ∨ (n < A.length ∧ r = f (A.getD n []))
  | [], n, r, h => by simp at h
  | x :: A, 0, r, h => by
    simp only [List.modify_zero_cons, List.mem_cons] at h
    rcases h with rfl | h
    · exact .inr ⟨by simp, rfl⟩
    · exact .inl (List.mem_cons_of_mem _ h)
  | x :: A, n + 1, r, h => by
    simp only [List.modify_succ_cons, List.mem_cons] at h
    rcases h with rfl | h
    · exact .inl (List.mem_cons_self ..)
    · rcases mem_mod1 h with h | ⟨h1, h2⟩
      · exact .inl (List.mem_cons_of_mem _ h)
      · exact .inr ⟨by simp; omega, by simpa using h2⟩
def okR (r : List Int) : Bool := (liveB r == decide (0 < r.getD 0 0)) && (!liveB r || (guestB (r.getD 0 0) && guestB (r.getD 2 0)))
theorem okGB_mod {f : List Int → List Int} {n : Nat} (hG : okGB G = true) (h : n < G.length → okR (f (G.getD n [])) = true) : okGB (G.modify n f) = true := by
  refine List.all_eq_true.2 fun r hr => ?_
  rcases mem_mod1 hr with h1 | ⟨h1, rfl⟩
  · exact List.all_eq_true.1 hG r h1
  · exact h h1
theorem okGB_rep (n : Nat) : okGB (List.replicate n Z5) = true := List.all_eq_true.2 fun r hr => by rw [(List.mem_replicate.1 hr).2]; rfl
theorem okGB_off (hG : okGB G = true) (o p t w : Int) : okGB (offT G o p t w) = true := by
  unfold offT
  split
  · rename_i e
    refine okGB_mod hG fun _ => ?_
    unfold offE at e
    split at e
    · cases e
    · rename_i h
      simp only [Bool.or_eq_true, Bool.not_eq_true', not_or, Bool.not_eq_false] at h
      obtain ⟨⟨⟨⟨h1, h2⟩, _⟩, _⟩, _⟩ := h
      have h3 := h1
      simp only [guestB, Bool.and_eq_true, decide_eq_true_eq] at h3
      simp only [okR, List.getD_cons_zero, List.getD_cons_succ, h1, h2, Bool.and_self, Bool.or_true, Bool.and_true, beq_iff_eq]
      unfold liveB
      rw [decide_eq_true (by omega : 0 < o), Bool.not_eq_true', decide_eq_false_iff_not]
      intro e; simp at e; omega
  · exact hG
theorem okR_use {r : List Int} (h5 : okRow K5 r) (h : okR r = true) (hf : freeB r = false) (x : Int) : okR (r.set 4 x) = true := by
  obtain ⟨a, b, c, d, e, rfl⟩ := five h5
  have hl : liveB [a, b, c, d, e] = true := by unfold liveB freeB at *; rw [hf]; rfl
  unfold okR at h ⊢
  rw [hl] at h
  simp only [List.getD_cons_zero, List.getD_cons_succ, Bool.not_true, Bool.false_or, Bool.and_eq_true, beq_iff_eq] at h
  simp only [List.set_cons_succ, List.set_cons_zero, List.getD_cons_zero, List.getD_cons_succ, h.2.1, h.2.2, Bool.and_self, Bool.or_true, Bool.and_true, beq_iff_eq, ← h.1]
  unfold liveB
  rw [Bool.not_eq_true', decide_eq_false_iff_not]
  intro e; simp at e; simp at h; omega
theorem okGB_use (h5 : ∀ r ∈ G, okRow K5 r) (hG : okGB G = true) (hn : noneB G n = false) (x : Int) : okGB (G.modify n.toNat fun r => r.set 4 x) = true := by
  refine okGB_mod hG fun hl => ?_
  have hm : G.getD n.toNat [] ∈ G := by rw [show G.getD n.toNat [] = G[n.toNat] from by simp [List.getD, hl]]; exact List.getElem_mem ..
  unfold noneB at hn
  rw [Bool.or_eq_false_iff] at hn
  exact okR_use (h5 _ hm) (List.all_eq_true.1 hG _ hm) hn.2 x
theorem okGB_tak (h5 : ∀ r ∈ G, okRow K5 r) (hG : okGB G = true) (n g w : Int) : okGB (takT G n g w) = true := by
  unfold takT
  split
  · rename_i e
    refine okGB_use h5 hG ?_ _
    unfold takE at e
    cases hn : noneB G n with
    | false => rfl
    | true => rw [if_pos hn] at e; cases e
  · exact hG
theorem okGB_bac (h5 : ∀ r ∈ G, okRow K5 r) (hG : okGB G = true) (n g : Int) : okGB (bacT G n g) = true := by
  unfold bacT
  split
  · rename_i e
    refine okGB_use h5 hG ?_ _
    unfold bacE at e
    cases hn : noneB G n with
    | false => rfl
    | true => rw [if_pos hn] at e; cases e
  · exact hG
theorem okGB_rev (hG : okGB G = true) (n o : Int) : okGB (revT G n o) = true := by
  unfold revT
  split
  · exact okGB_mod hG fun _ => rfl
  · exact hG
/-- Cells of who was seen are 0 or 1. -/
def bits (S : Tab) : Prop := ∀ r ∈ S, okRow [.b] r
theorem bits_see {S : Tab} (h : bits S) (n : Int) : bits (seeT S n) := by
  intro r hr
  rcases mem_mod hr with hr | ⟨s, hs, rfl⟩
  · exact h r hr
  · have := h s hs
    match s, this with
    | [x], _ => simp [okRow, okCell]
theorem bits_dfs (G : Tab) : ∀ (k : Nat) {S : Tab} (n : Int), bits S → bits (dfs G k S n)
  | 0, S, n, h => h
  | k + 1, S, n, h => by
    rw [dfs]; split
    · exact h
    · suffices ∀ (M S : Tab), bits S → bits (M.foldl (stepR (dfs G k) n) S) from this G _ (bits_see h n)
      intro M
      induction M with
      | nil => intro S h; exact h
      | cons r M ih =>
        intro S h
        refine ih _ ?_
        unfold stepR
        split
        · split
          · exact bits_dfs G k _ h
          · split
            · exact bits_dfs G k _ h
            · exact h
        · exact h
theorem seen_not {S : Tab} (hl : (S.length : Int) = 17) (h : bits S) (h0 : 0 ≤ n) (h1 : n ≤ 16) : seenB S n = !decide ((S.getD n.toNat []).getD 0 0 = 0) := by
  by_cases hz : (S.getD n.toNat []).getD 0 0 = 0
  · rw [seen_0 hz, decide_eq_true hz]; rfl
  · rw [seen_1 hl h h0 h1 hz, decide_eq_false hz]; rfl
theorem bits_none : bits noneS := fun r hr => by rw [(List.mem_replicate.1 hr).2]; simp [okRow, okCell]
theorem link_at (h0 : 1 ≤ a ∧ a ≤ 16) (h1 : 1 ≤ b ∧ b ≤ 16) (hl : ((dfs G 18 noneS a).length : Int) = 17) : linkB G a b = !decide (((dfs G 18 noneS a).getD b.toNat []).getD 0 0 = 0) := by
  unfold linkB
  rw [show guestB a = true by simp [guestB, h0.1, h0.2], show guestB b = true by simp [guestB, h1.1, h1.2], Bool.and_self, Bool.true_and]
  exact seen_not hl (bits_dfs G 18 a bits_none) (by omega) (by omega)
theorem rem16 {x : Int} (h : 0 ≤ x) : 0 ≤ x.tmod 16 ∧ x.tmod 16 ≤ 15 := by
  rw [Int.tmod_eq_emod_of_nonneg h]; omega
end Go.SF.C19
