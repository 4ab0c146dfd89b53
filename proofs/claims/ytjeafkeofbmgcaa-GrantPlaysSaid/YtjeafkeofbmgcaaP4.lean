/- Who is linked with whom, in plain Lean: the search in depth. -/
import Derived.Test.YtjeafkeofbmgcaaP
namespace Go.SF.C19
open Go.SF
set_option linter.unusedVariables false

/-- Two guests share a grant. -/
def edge (G : Tab) (x y : Int) : Prop := ∃ r ∈ G, liveB r = true ∧ ((r.getD 0 0 = x ∧ r.getD 2 0 = y) ∨ (r.getD 2 0 = x ∧ r.getD 0 0 = y))
inductive Conn (G : Tab) (a : Int) : Int → Prop
  | refl : Conn G a a
  | step {x y : Int} : Conn G a x → edge G x y → Conn G a y
variable {G S : Tab} {n x y a b c : Int}

theorem edge_symm (h : edge G x y) : edge G y x := by
  obtain ⟨r, hr, hl, h⟩ := h
  exact ⟨r, hr, hl, h.elim (fun h => .inr ⟨h.2, h.1⟩) (fun h => .inl ⟨h.2, h.1⟩)⟩
theorem Conn.trans (h : Conn G a b) (h' : Conn G b c) : Conn G a c := by
  induction h' with
  | refl => exact h
  | step _ e ih => exact .step ih e
theorem Conn.symm (h : Conn G a b) : Conn G b a := by
  induction h with
  | refl => exact .refl
  | step _ e ih => exact Conn.trans (.step .refl (edge_symm e)) ih
/-- A table of who was seen: seventeen rows of one. -/
def okS (S : Tab) : Prop := S.length = 17 ∧ ∀ r ∈ S, r.length = 1
def inG (n : Int) : Prop := 0 ≤ n ∧ n ≤ 16
def okG (G : Tab) : Prop := ∀ r ∈ G, liveB r = true → inG (r.getD 0 0) ∧ inG (r.getD 2 0)
theorem ok_see (h : okS S) : okS (seeT S n) := by
  obtain ⟨h1, h2⟩ := h
  refine ⟨by simp [seeT, h1], fun r hr => ?_⟩
  obtain ⟨k, hk, e⟩ := List.getElem_of_mem hr
  simp only [seeT] at e hk
  rw [List.getElem_modify] at e
  have hk' : k < S.length := by simpa using hk
  split at e
  · rw [← e, List.length_set]; exact h2 _ (List.getElem_mem _)
  · rw [← e]; exact h2 _ (List.getElem_mem _)
theorem seen_see (h : okS S) (hn : inG n) (hx : inG x) : seenB (seeT S n) x = (decide (x = n) || seenB S x) := by
  obtain ⟨h1, h2⟩ := h
  have hk : x.toNat < S.length := by unfold inG at hx; omega
  have hr := h2 _ (List.getElem_mem hk)
  obtain ⟨v, hv⟩ : ∃ v, S[x.toNat] = [v] := List.length_eq_one_iff.1 hr
  unfold seenB seeT
  simp only [List.getD, List.getElem?_modify, List.getElem?_eq_getElem hk, hv, Option.map_some, Option.getD_some]
  by_cases e : n.toNat = x.toNat
  · have : x = n := by unfold inG at *; omega
    simp [e, this]
  · have : ¬ x = n := fun e' => e (by rw [e'])
    simp [e, this]
theorem count_mod {p : List Int → Bool} {f : List Int → List Int} : ∀ {S : Tab} {k : Nat} (hk : k < S.length), p S[k] = true → p (f S[k]) = false → (S.modify k f).countP p + 1 = S.countP p
  | r :: S, 0, _, h1, h2 => by
    simp only [List.getElem_cons_zero] at h1 h2
    simp [List.modify_cons, List.countP_cons, h1, h2]
  | r :: S, k + 1, hk, h1, h2 => by
    simp only [List.getElem_cons_succ] at h1 h2
    have := count_mod (S := S) (k := k) (by simpa using hk) h1 h2
    simp only [List.modify_succ_cons, List.countP_cons]
    omega
theorem unseen_see (h : okS S) (hn : inG n) (hs : seenB S n = false) : unseen (seeT S n) + 1 = unseen S := by
  obtain ⟨h1, h2⟩ := h
  have hk : n.toNat < S.length := by unfold inG at hn; omega
  have hr := h2 _ (List.getElem_mem hk)
  unfold seenB at hs
  simp only [List.getD, List.getElem?_eq_getElem hk, Option.getD_some] at hs
  have := count_mod (p := fun r => !decide (r.getD 0 0 = 1)) (f := fun row => row.set 0 1) hk (by rw [show S[n.toNat].getD 0 0 = S[n.toNat][0]?.getD 0 from rfl]; simpa using hs) (by
    match S[n.toNat], hr with
    | [v], _ => simp)
  unfold unseen seeT
  omega
theorem unseen_pos (S : Tab) : 0 ≤ unseen S := by unfold unseen; omega
theorem edge_in (hG : okG G) (h : edge G x y) : inG x ∧ inG y := by
  obtain ⟨r, hr, hl, h⟩ := h
  obtain ⟨g1, g2⟩ := hG r hr hl
  rcases h with ⟨rfl, rfl⟩ | ⟨rfl, rfl⟩
  · exact ⟨g1, g2⟩
  · exact ⟨g2, g1⟩
/-- What a search from n comes to, that began at S. -/
def Found (G : Tab) (n : Int) (S S' : Tab) : Prop :=
  okS S' ∧ unseen S' ≤ unseen S ∧ (∀ x, inG x → seenB S x = true → seenB S' x = true) ∧ ∀ x, inG x → seenB S' x = true → seenB S x = true ∨ (Conn G n x ∧ ∀ y, edge G x y → seenB S' y = true)
theorem found_next (hG : okG G) {m : Int} {S T T' : Tab} (h : Found G n S T) (h' : Found G m T T') (e : edge G n m) : Found G n S T' := by
  obtain ⟨a1, a2, a3, a4⟩ := h
  obtain ⟨b1, b2, b3, b4⟩ := h'
  refine ⟨b1, by omega, fun x hx hs => b3 x hx (a3 x hx hs), fun x hx hs => ?_⟩
  rcases b4 x hx hs with h | ⟨h, hc⟩
  · rcases a4 x hx h with h | ⟨h, hc⟩
    · exact .inl h
    · exact .inr ⟨h, fun y hy => b3 y (edge_in hG hy).2 (hc y hy)⟩
  · exact .inr ⟨Conn.trans (.step .refl e) h, hc⟩
theorem found_refl (h : okS S) : Found G n S S := ⟨h, Int.le_refl _, fun _ _ h => h, fun _ _ h => .inl h⟩
theorem dfs_ok (hG : okG G) : ∀ (k : Nat) (S : Tab) (n : Int), okS S → inG n → unseen S ≤ k → Found G n S (dfs G (k + 1) S n) ∧ seenB (dfs G (k + 1) S n) n = true := by
  intro k
  induction k with
  | zero =>
    intro S n hS hn hu
    unfold dfs
    cases hs : seenB S n with
    | true => simp only [if_true]; exact ⟨found_refl hS, hs⟩
    | false =>
      have h1 := unseen_see hS hn hs
      have h2 := unseen_pos (seeT S n)
      exfalso
      simp only [Int.ofNat_eq_natCast, Int.natCast_zero] at hu
      omega
  | succ k ih =>
    intro S n hS hn hu
    rw [show dfs G (k + 1 + 1) S n = if seenB S n then S else G.foldl (stepR (dfs G (k + 1)) n) (seeT S n) from rfl]
    cases hs : seenB S n with
    | true => simp only [if_true]; exact ⟨found_refl hS, hs⟩
    | false =>
      simp only [Bool.false_eq_true, if_false]
      have hu1 := unseen_see hS hn hs
      have hS1 : okS (seeT S n) := ok_see hS
      have hn1 : seenB (seeT S n) n = true := by rw [seen_see hS hn hn]; simp
      have fold : ∀ (L : Tab), (∀ r ∈ L, r ∈ G) → ∀ T, Found G n (seeT S n) T → Found G n (seeT S n) (L.foldl (stepR (dfs G (k + 1)) n) T) ∧
          (∀ x, inG x → seenB T x = true → seenB (L.foldl (stepR (dfs G (k + 1)) n) T) x = true) ∧
          ∀ r ∈ L, liveB r = true → (r.getD 0 0 = n → seenB (L.foldl (stepR (dfs G (k + 1)) n) T) (r.getD 2 0) = true) ∧ (r.getD 2 0 = n → seenB (L.foldl (stepR (dfs G (k + 1)) n) T) (r.getD 0 0) = true) := by
        intro L
        induction L with
        | nil => intro _ T hT; exact ⟨hT, fun _ _ h => h, fun r hr => by cases hr⟩
        | cons r L ihL =>
          intro hL T hT
          have hr := hL r (List.mem_cons_self ..)
          have key : Found G n (seeT S n) (stepR (dfs G (k + 1)) n T r) ∧ (∀ x, inG x → seenB T x = true → seenB (stepR (dfs G (k + 1)) n T r) x = true) ∧
              (liveB r = true → (r.getD 0 0 = n → seenB (stepR (dfs G (k + 1)) n T r) (r.getD 2 0) = true) ∧ (r.getD 2 0 = n → seenB (stepR (dfs G (k + 1)) n T r) (r.getD 0 0) = true)) := by
            have hnT := hT.2.2.1 n hn hn1
            have huT : unseen T ≤ k := by have := hT.2.1; omega
            unfold stepR
            cases hl : liveB r with
            | false => simp only [Bool.false_eq_true, if_false]; exact ⟨hT, fun _ _ h => h, fun h => by cases h⟩
            | true =>
              simp only [if_true]
              obtain ⟨g0, g2⟩ := hG r hr hl
              by_cases e0 : r.getD 0 0 = n
              · simp only [if_pos e0]
                obtain ⟨f1, f2⟩ := ih T (r.getD 2 0) hT.1 g2 huT
                refine ⟨found_next hG hT f1 ⟨r, hr, hl, .inl ⟨e0, rfl⟩⟩, f1.2.2.1, fun _ => ⟨fun _ => f2, fun _ => ?_⟩⟩
                rw [e0]; exact f1.2.2.1 n hn hnT
              · simp only [if_neg e0]
                by_cases e2 : r.getD 2 0 = n
                · simp only [if_pos e2]
                  obtain ⟨f1, f2⟩ := ih T (r.getD 0 0) hT.1 g0 huT
                  exact ⟨found_next hG hT f1 ⟨r, hr, hl, .inr ⟨e2, rfl⟩⟩, f1.2.2.1, fun _ => ⟨fun h => absurd h e0, fun _ => f2⟩⟩
                · simp only [if_neg e2]
                  exact ⟨hT, fun _ _ h => h, fun _ => ⟨fun h => absurd h e0, fun h => absurd h e2⟩⟩
          obtain ⟨k1, k2, k3⟩ := key
          obtain ⟨j1, j2, j3⟩ := ihL (fun r hr => hL r (List.mem_cons_of_mem _ hr)) _ k1
          refine ⟨j1, fun x hx h => j2 x hx (k2 x hx h), fun r' hr' hl' => ?_⟩
          rcases List.mem_cons.1 hr' with rfl | hr'
          · obtain ⟨g0, g2⟩ := hG _ hr hl'
            exact ⟨fun h => j2 _ g2 ((k3 hl').1 h), fun h => j2 _ g0 ((k3 hl').2 h)⟩
          · exact j3 r' hr' hl'
      obtain ⟨f1, f2, f3⟩ := fold G (fun _ h => h) _ (found_refl hS1)
      obtain ⟨a1, a2, a3, a4⟩ := f1
      refine ⟨⟨a1, by omega, fun x hx h => a3 x hx (by rw [seen_see hS hn hx, h]; simp), fun x hx h => ?_⟩, f2 n hn hn1⟩
      rcases a4 x hx h with h | h
      · rw [seen_see hS hn hx] at h
        simp only [Bool.or_eq_true, decide_eq_true_eq] at h
        rcases h with rfl | h
        · refine .inr ⟨.refl, fun y hy => ?_⟩
          obtain ⟨r, hr, hl, h⟩ := hy
          rcases h with ⟨h1, rfl⟩ | ⟨h1, rfl⟩
          · exact (f3 r hr hl).1 h1
          · exact (f3 r hr hl).2 h1
        · exact .inl h
      · exact .inr h
/-- Nobody was seen. -/
theorem ok_none : okS noneS := ⟨by simp [noneS], fun r hr => by rw [(List.mem_replicate.1 hr).2]; rfl⟩
theorem seen_none (x : Int) : seenB noneS x = false := by
  unfold seenB noneS
  simp only [List.getD, List.getElem?_replicate]
  split <;> simp
theorem unseen_none : unseen noneS = 17 := by decide
/-- The search from a finds who is linked with a. -/
theorem dfs_conn (hG : okG G) (ha : inG a) (hb : inG b) : seenB (dfs G 18 noneS a) b = true ↔ Conn G a b := by
  obtain ⟨⟨a1, a2, a3, a4⟩, f2⟩ := dfs_ok hG 17 noneS a ok_none ha (by rw [unseen_none]; decide)
  have cl : ∀ x, inG x → seenB (dfs G 18 noneS a) x = true → Conn G a x ∧ ∀ y, edge G x y → seenB (dfs G 18 noneS a) y = true := fun x hx h => by
    rcases a4 x hx h with h | h
    · rw [seen_none] at h; cases h
    · exact h
  refine ⟨fun h => (cl b hb h).1, fun h => ?_⟩
  induction h with
  | refl => exact f2
  | step _ e ih => exact (cl _ (edge_in hG e).1 (ih (edge_in hG e).1)).2 _ e
end Go.SF.C19
