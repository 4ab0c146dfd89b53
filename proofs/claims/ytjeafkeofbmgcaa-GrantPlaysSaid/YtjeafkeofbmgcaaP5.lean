/- Who is linked with whom, in plain Lean: the document's rounds. -/
import Derived.Test.YtjeafkeofbmgcaaP4
namespace Go.SF.C19
open Go.SF
set_option linter.unusedVariables false
variable {G S T : Tab} {n x y a b c : Int}

theorem see_same (h : okS S) (hn : inG n) (hs : seenB S n = true) : seeT S n = S := by
  obtain ⟨h1, h2⟩ := h
  have hk : n.toNat < S.length := by unfold inG at hn; omega
  obtain ⟨v, hv⟩ : ∃ v, S[n.toNat] = [v] := List.length_eq_one_iff.1 (h2 _ (List.getElem_mem hk))
  unfold seenB at hs
  simp only [List.getD, List.getElem?_eq_getElem hk, hv, Option.getD_some] at hs
  simp at hs
  unfold seeT
  refine List.ext_getElem (by simp) fun i hi hi' => ?_
  rw [List.getElem_modify]
  split
  · rename_i e; subst e; rw [hv, hs]; rfl
  · rfl
/-- A step, or nothing. -/
theorem see_less (h : okS S) (hn : inG n) : seeT S n = S ∨ unseen (seeT S n) < unseen S := by
  cases hs : seenB S n with
  | true => exact .inl (see_same h hn hs)
  | false => have := unseen_see h hn hs; exact .inr (by omega)
theorem stepB_less (h : okS S) {r : List Int} (h0 : 0 < r.getD 0 0 → inG (r.getD 0 0) ∧ inG (r.getD 2 0)) : stepB S r = S ∨ unseen (stepB S r) < unseen S := by
  unfold stepB
  split
  · rename_i hc
    simp only [Bool.and_eq_true, decide_eq_true_eq] at hc
    obtain ⟨g0, g2⟩ := h0 hc.1
    rcases see_less h g0 with e | e
    · rw [e]; exact see_less h g2
    · rcases see_less (ok_see (n := r.getD 0 0) h) g2 with e2 | e2
      · rw [e2]; exact .inr e
      · exact .inr (by omega)
  · exact .inl rfl
def okL (G : Tab) : Prop := ∀ r ∈ G, liveB r = decide (0 < r.getD 0 0)
theorem stepB_ok (h : okS S) (r : List Int) : okS (stepB S r) := by
  unfold stepB; split
  · exact ok_see (ok_see h)
  · exact h
theorem stepB_mono (h : okS S) {r : List Int} (h0 : 0 < r.getD 0 0 → inG (r.getD 0 0) ∧ inG (r.getD 2 0)) (hx : inG x) (hs : seenB S x = true) : seenB (stepB S r) x = true := by
  unfold stepB; split
  · rename_i hc
    simp only [Bool.and_eq_true, decide_eq_true_eq] at hc
    obtain ⟨g0, g2⟩ := h0 hc.1
    rw [seen_see (ok_see h) g2 hx, seen_see h g0 hx, hs]; simp
  · exact hs
theorem fold_less (hG : ∀ r ∈ G, 0 < r.getD 0 0 → inG (r.getD 0 0) ∧ inG (r.getD 2 0)) : ∀ {S : Tab}, okS S → G.foldl stepB S = S ∨ unseen (G.foldl stepB S) < unseen S := by
  induction G with
  | nil => intro S _; exact .inl rfl
  | cons r G ih =>
    intro S hS
    have h1 := stepB_less hS (hG r (List.mem_cons_self ..))
    have h2 := ih (fun r' hr => hG r' (List.mem_cons_of_mem _ hr)) (stepB_ok hS r)
    simp only [List.foldl_cons]
    rcases h1 with e | e
    · rw [e] at h2 ⊢; exact h2
    · rcases h2 with e2 | e2
      · rw [e2]; exact .inr e
      · exact .inr (by omega)
theorem fold_ok : ∀ {G S : Tab}, okS S → okS (G.foldl stepB S)
  | [], _, h => h
  | r :: G, S, h => fold_ok (G := G) (stepB_ok h r)
theorem fold_mono (hG : ∀ r ∈ G, 0 < r.getD 0 0 → inG (r.getD 0 0) ∧ inG (r.getD 2 0)) (hx : inG x) : ∀ {S : Tab}, okS S → seenB S x = true → seenB (G.foldl stepB S) x = true := by
  induction G with
  | nil => intro S _ h; exact h
  | cons r G ih => intro S hS h; exact ih (fun r' hr => hG r' (List.mem_cons_of_mem _ hr)) (stepB_ok hS r) (stepB_mono hS (hG r (List.mem_cons_self ..)) hx h)
/-- Behind a round both ends of a grant were seen, if one was ahead of it. -/
theorem fold_both (hG : ∀ r ∈ G, 0 < r.getD 0 0 → inG (r.getD 0 0) ∧ inG (r.getD 2 0)) : ∀ {S : Tab}, okS S → ∀ r ∈ G, 0 < r.getD 0 0 → seenB S (r.getD 0 0) = true ∨ seenB S (r.getD 2 0) = true →
    seenB (G.foldl stepB S) (r.getD 0 0) = true ∧ seenB (G.foldl stepB S) (r.getD 2 0) = true := by
  induction G with
  | nil => intro S _ r hr; cases hr
  | cons q G ih =>
    intro S hS r hr h0 h
    have hG' := fun r' hr => hG r' (List.mem_cons_of_mem q hr)
    obtain ⟨g0, g2⟩ := hG r hr h0
    rcases List.mem_cons.1 hr with rfl | hr'
    · have e : stepB S r = seeT (seeT S (r.getD 0 0)) (r.getD 2 0) := by
        unfold stepB
        rw [if_pos]
        simp only [Bool.and_eq_true, decide_eq_true_eq, Bool.or_eq_true]
        exact ⟨h0, h⟩
      refine ⟨fold_mono hG' g0 (stepB_ok hS _) ?_, fold_mono hG' g2 (stepB_ok hS _) ?_⟩
      · rw [e, seen_see (ok_see hS) g2 g0, seen_see hS g0 g0]; simp
      · rw [e, seen_see (ok_see hS) g2 g2]; simp
    · exact ih hG' (stepB_ok hS q) r hr' h0 (h.imp (stepB_mono hS (hG q (List.mem_cons_self ..)) g0) (stepB_mono hS (hG q (List.mem_cons_self ..)) g2))
theorem fold_conn : ∀ {L : Tab}, (∀ r ∈ L, r ∈ G) → okG G → okL G → ∀ {S : Tab}, okS S → (∀ x, inG x → seenB S x = true → Conn G a x) → ∀ x, inG x → seenB (L.foldl stepB S) x = true → Conn G a x := by
  intro L
  induction L with
  | nil => intro _ _ _ S _ h; exact h
  | cons r L ih =>
    intro hL hG hl S hS h
    refine ih (fun r' hr => hL r' (List.mem_cons_of_mem _ hr)) hG hl (stepB_ok hS r) fun x hx hs => ?_
    unfold stepB at hs
    split at hs
    · rename_i hc
      simp only [Bool.and_eq_true, decide_eq_true_eq, Bool.or_eq_true] at hc
      have hr := hL r (List.mem_cons_self ..)
      have hlive : liveB r = true := by rw [hl r hr]; simpa using hc.1
      obtain ⟨g0, g2⟩ := hG r hr hlive
      have e02 : edge G (r.getD 0 0) (r.getD 2 0) := ⟨r, hr, hlive, .inl ⟨rfl, rfl⟩⟩
      have both : Conn G a (r.getD 0 0) ∧ Conn G a (r.getD 2 0) := by
        rcases hc.2 with h' | h'
        · have := h _ g0 h'; exact ⟨this, .step this e02⟩
        · have := h _ g2 h'; exact ⟨.step this (edge_symm e02), this⟩
      rw [seen_see (ok_see hS) g2 hx, seen_see hS g0 hx] at hs
      simp only [Bool.or_eq_true, decide_eq_true_eq] at hs
      rcases hs with rfl | rfl | hs
      · exact both.2
      · exact both.1
      · exact h x hx hs
    · exact h x hx hs
theorem all_seen (h : okS S) (hu : unseen S ≤ 0) (hx : inG x) : seenB S x = true := by
  cases hs : seenB S x with
  | true => rfl
  | false => have h1 := unseen_see h hx hs; have h2 := unseen_pos (seeT S x); omega
def closed (G S : Tab) : Prop := ∀ x y, seenB S x = true → edge G x y → seenB S y = true
theorem closed_fix (hG : okG G) (hl : okL G) (h : okS S) (e : G.foldl stepB S = S) : closed G S := by
  intro x y hx hy
  have hg : ∀ r ∈ G, 0 < r.getD 0 0 → inG (r.getD 0 0) ∧ inG (r.getD 2 0) := fun r hr h0 => hG r hr (by rw [hl r hr]; simpa using h0)
  obtain ⟨r, hr, hlive, h'⟩ := hy
  have h0 : 0 < r.getD 0 0 := by rw [hl r hr] at hlive; simpa using hlive
  have hb := fold_both hg h r hr h0
  rw [e] at hb
  rcases h' with ⟨rfl, rfl⟩ | ⟨rfl, rfl⟩
  · exact (hb (.inl hx)).2
  · exact (hb (.inr hx)).1
theorem rounds_fix (e : G.foldl stepB S = S) : ∀ k, rounds G k S = S
  | 0 => rfl
  | k + 1 => by rw [rounds, e]; exact rounds_fix e k
theorem rounds_ok (hG : okG G) (hl : okL G) : ∀ (k : Nat) (S : Tab), okS S → unseen S ≤ k → (∀ x, inG x → seenB S x = true → Conn G a x) →
    closed G (rounds G k S) ∧ (∀ x, inG x → seenB (rounds G k S) x = true → Conn G a x) ∧ ∀ x, inG x → seenB S x = true → seenB (rounds G k S) x = true := by
  have hg : ∀ r ∈ G, 0 < r.getD 0 0 → inG (r.getD 0 0) ∧ inG (r.getD 2 0) := fun r hr h0 => hG r hr (by rw [hl r hr]; simpa using h0)
  intro k
  induction k with
  | zero =>
    intro S hS hu hc
    exact ⟨fun x y _ hy => all_seen (S := S) hS (by simpa using hu) (edge_in hG hy).2, hc, fun _ _ h => h⟩
  | succ k ih =>
    intro S hS hu hc
    rcases fold_less hg hS with e | e
    · rw [rounds_fix e]; exact ⟨closed_fix hG hl hS e, hc, fun _ _ h => h⟩
    · rw [rounds]
      obtain ⟨j1, j2, j3⟩ := ih _ (fold_ok hS) (by omega) (fold_conn (fun _ h => h) hG hl hS hc)
      exact ⟨j1, j2, fun x hx h => j3 x hx (fold_mono hg hx hS h)⟩
/-- The document's sixteen rounds find who is linked with a. -/
theorem rounds_conn (hG : okG G) (hl : okL G) (ha : inG a) (hb : inG b) : seenB (rounds G 16 (seeT noneS a)) b = true ↔ Conn G a b := by
  have hu : unseen (seeT noneS a) ≤ (16 : Nat) := by have := unseen_see ok_none ha (seen_none a); rw [unseen_none] at this; omega
  obtain ⟨j1, j2, j3⟩ := rounds_ok (a := a) hG hl 16 _ (ok_see ok_none) hu fun x hx h => by
    rw [seen_see ok_none ha hx, seen_none] at h
    simp at h; subst h; exact .refl
  refine ⟨j2 b hb, fun h => ?_⟩
  induction h with
  | refl => exact j3 a ha (by rw [seen_see ok_none ha ha]; simp)
  | step _ e ih => exact j1 _ _ (ih (edge_in hG e).1) e
/-- Both find the same. -/
theorem linked_same (hG : okG G) (hl : okL G) (ha : inG a) (hb : inG b) : seenB (dfs G 18 noneS a) b = seenB (rounds G 16 (seeT noneS a)) b := by
  rw [Bool.eq_iff_iff, dfs_conn hG ha hb, rounds_conn hG hl ha hb]
end Go.SF.C19
