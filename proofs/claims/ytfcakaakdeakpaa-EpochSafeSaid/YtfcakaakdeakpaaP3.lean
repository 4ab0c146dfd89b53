/- Chapter 10: lemmas for the stage's theorem, in plain Lean. -/
import Derived.Test.YtfcakaakdeakpaaP2
namespace Go.SF.C10
open Go Go.SF
set_option linter.unusedVariables false
set_option linter.unusedSimpArgs false
variable {P A S N L : Tab} {now i f x c k : Int}

/-- One frame that waits. -/
structure Safe (P S N : Tab) (f at' i : Int) : Prop where
  len : (rowS S f).length = 4
  le : ∀ c < 4, (rowS S f).getD c 0 ≤ i
  ok : ∀ c < 4, 0 < (rowS S f).getD c 0 → cell N c = (rowS S f).getD c 0 → cell P c ≤ at'
theorem safe_iff {at' : Int} : safeR P S N f at' i = true ↔ Safe P S N f at' i := by
  simp only [safeR, Bool.and_eq_true, decide_eq_true_eq, List.all_eq_true, List.mem_range, Bool.or_eq_true, Bool.not_eq_true', decide_eq_false_iff_not]
  constructor
  · rintro ⟨h1, h2⟩
    refine ⟨h1, fun c hc => (h2 c hc).1, fun c hc h3 h4 => ?_⟩
    rcases (h2 c hc).2 with h | h | h
    · omega
    · exact absurd h4 h
    · exact h
  · rintro ⟨h1, h2, h3⟩
    refine ⟨h1, fun c hc => ⟨h2 c hc, ?_⟩⟩
    by_cases h4 : 0 < (rowS S f).getD c 0
    · by_cases h5 : cell N c = (rowS S f).getD c 0
      · exact .inr (.inr (h3 c hc h4 h5))
      · exact .inr (.inl h5)
    · exact .inl (by omega)
def Sin (P N : Tab) (i : Int) : Prop := ∀ c < 4, (cell N c = 0 ↔ cell P c = -1) ∧ 0 ≤ cell N c ∧ cell N c ≤ i
theorem sin_iff : sinB P N i = true ↔ Sin P N i := by
  unfold sinB Sin
  rw [List.all_eq_true]
  have key : ∀ c : Nat, ((decide (cell N c = 0) == decide (cell P c = -1)) && (decide (0 ≤ cell N c) && decide (cell N c ≤ i))) = true ↔ (cell N c = 0 ↔ cell P c = -1) ∧ 0 ≤ cell N c ∧ cell N c ≤ i := by
    intro c
    rw [Bool.and_eq_true, Bool.and_eq_true, beq_iff_eq, decide_eq_decide, decide_eq_true_eq, decide_eq_true_eq]
  exact ⟨fun h c hc => (key c).1 (h c (List.mem_range.2 hc)), fun h c hc => (key c).2 (h c (List.mem_range.1 hc))⟩
theorem sf_iff : sfB P A S N now i = true ↔ (∀ r ∈ A, 0 ≤ r.getD 0 0 ∧ r.getD 0 0 ≤ 63 ∧ 0 ≤ r.getD 1 0 ∧ r.getD 1 0 ≤ now ∧ Safe P S N (r.getD 0 0) (r.getD 1 0) i) ∧ Sin P N i := by
  unfold sfB
  rw [Bool.and_eq_true, List.all_eq_true, sin_iff]
  have key : ∀ r : List Int, ((decide (0 ≤ r.getD 0 0) && decide (r.getD 0 0 ≤ 63)) && ((decide (0 ≤ r.getD 1 0) && decide (r.getD 1 0 ≤ now)) && safeR P S N (r.getD 0 0) (r.getD 1 0) i)) = true ↔
      0 ≤ r.getD 0 0 ∧ r.getD 0 0 ≤ 63 ∧ 0 ≤ r.getD 1 0 ∧ r.getD 1 0 ≤ now ∧ Safe P S N (r.getD 0 0) (r.getD 1 0) i := by
    intro r
    simp only [Bool.and_eq_true, decide_eq_true_eq, safe_iff, and_assoc]
  exact ⟨fun h => ⟨fun r hr => (key r).1 (h.1 r hr), h.2⟩, fun h => ⟨fun r hr => (key r).2 (h.1 r hr), h.2⟩⟩
structure Gone (S N : Tab) (f : Int) : Prop where
  b0 : 0 ≤ f
  b1 : f ≤ 63
  len : (rowS S f).length = 4
  no : ∀ c < 4, 0 < (rowS S f).getD c 0 → ¬ cell N c = (rowS S f).getD c 0
theorem gone_iff : goneR S N f = true ↔ Gone S N f := by
  simp only [goneR, Bool.and_eq_true, decide_eq_true_eq, List.all_eq_true, List.mem_range, Bool.or_eq_true, Bool.not_eq_true', decide_eq_false_iff_not]
  constructor
  · rintro ⟨⟨h0, h1⟩, h2, h3⟩
    exact ⟨h0, h1, h2, fun c hc h4 => (h3 c hc).resolve_left (by omega)⟩
  · rintro ⟨h0, h1, h2, h3⟩
    refine ⟨⟨h0, h1⟩, h2, fun c hc => ?_⟩
    by_cases h4 : 0 < (rowS S f).getD c 0
    · exact .inr (h3 c hc h4)
    · exact .inl (by omega)
theorem sf_more (h : sfB P A S N now i = true) {j : Int} (hj : i ≤ j) : sfB P A S N now j = true := by
  obtain ⟨h1, h2⟩ := sf_iff.1 h
  refine sf_iff.2 ⟨fun r hr => ?_, fun c hc => ?_⟩
  · obtain ⟨a1, a2, a3, a4, a5⟩ := h1 r hr
    exact ⟨a1, a2, a3, a4, a5.len, fun c hc => by have := a5.le c hc; omega, a5.ok⟩
  · obtain ⟨b1, b2, b3⟩ := h2 c hc
    exact ⟨b1, b2, by omega⟩
theorem sf_next (h : sfB P A S N now i = true) : sfB P A S N (now + 1) i = true := by
  obtain ⟨h1, h2⟩ := sf_iff.1 h
  refine sf_iff.2 ⟨fun r hr => ?_, h2⟩
  obtain ⟨a1, a2, a3, a4, a5⟩ := h1 r hr
  exact ⟨a1, a2, a3, by omega, a5⟩
/-- One cell of a column is set. -/
theorem cell_mod {A : Tab} {n m : Nat} {v : Int} (hr : ∀ r ∈ A, ∃ y, r = [y]) (hm : m < A.length) : cell (A.modify n fun r => r.set 0 v) m = if m = n then v else cell A m := by
  unfold cell
  have e : (A.modify n fun r => r.set 0 v).getD m [] = if n = m then (A.getD m []).set 0 v else A.getD m [] := by
    rw [List.getD_eq_getElem?_getD, List.getElem?_modify, List.getElem?_eq_getElem hm, List.getD_eq_getElem?_getD, List.getElem?_eq_getElem hm]
    split <;> simp
  rw [e]
  have hmem : A.getD m [] ∈ A := by rw [List.getD_eq_getElem?_getD, List.getElem?_eq_getElem hm]; exact List.getElem_mem _
  obtain ⟨y, hy⟩ := hr _ hmem
  by_cases h : n = m
  · subst h; rw [if_pos rfl, if_pos rfl, hy]; rfl
  · rw [if_neg h, if_neg fun e => h e.symm]
theorem col {k : CK} {A : Tab} (h : ∀ r ∈ A, okRow [k] r) : ∀ r ∈ A, ∃ y, r = [y] := fun r hr => ⟨_, (row1 (h r hr)).symm⟩
/-- Pin. -/
theorem sf_pin (h : sfB P A S N now i = true) (hP : ∀ r ∈ P, okRow [.i .i64] r) (hN : ∀ r ∈ N, okRow [.i .i64] r) (lP : (P.length : Int) = 4) (lN : (N.length : Int) = 4) (h0 : 0 ≤ now) (hi : 0 ≤ i)
    (c0 : 0 ≤ c) (c1 : c ≤ 3) (hp : pinI P c = 0) : sfB (pinL P c now) A S (N.modify c.toNat fun r => r.set 0 (i + 1)) now (i + 1) = true := by
  obtain ⟨h1, h2⟩ := sf_iff.1 h
  rw [pinL, if_pos hp]
  have eP : ∀ m < 4, cell (P.modify c.toNat fun r => r.set 0 now) m = if m = c.toNat then now else cell P m := fun m hm => cell_mod (col hP) (by omega)
  have eN : ∀ m < 4, cell (N.modify c.toNat fun r => r.set 0 (i + 1)) m = if m = c.toNat then i + 1 else cell N m := fun m hm => cell_mod (col hN) (by omega)
  refine sf_iff.2 ⟨fun r hr => ?_, fun m hm => ?_⟩
  · obtain ⟨a1, a2, a3, a4, a5⟩ := h1 r hr
    refine ⟨a1, a2, a3, a4, a5.len, fun m hm => by have := a5.le m hm; omega, fun m hm g1 g2 => ?_⟩
    rw [eN m hm] at g2
    rw [eP m hm]
    split at g2
    · have := a5.le m hm; omega
    · rename_i ne
      rw [if_neg ne]; exact a5.ok m hm g1 g2
  · obtain ⟨b1, b2, b3⟩ := h2 m hm
    rw [eN m hm, eP m hm]
    split
    · exact ⟨⟨fun e => by omega, fun e => by omega⟩, by omega, by omega⟩
    · exact ⟨b1, b2, by omega⟩
/-- Unpin. -/
theorem sf_unp (h : sfB P A S N now i = true) (hP : ∀ r ∈ P, okRow [.i .i64] r) (hN : ∀ r ∈ N, okRow [.i .i64] r) (lP : (P.length : Int) = 4) (lN : (N.length : Int) = 4) (hi : 0 ≤ i)
    (c0 : 0 ≤ c) (c1 : c ≤ 3) (hp : unpI P c = 0) : sfB (unpL P c) A S (N.modify c.toNat fun r => r.set 0 0) now (i + 1) = true := by
  obtain ⟨h1, h2⟩ := sf_iff.1 h
  rw [unpL, if_pos hp]
  have eP : ∀ m < 4, cell (P.modify c.toNat fun r => r.set 0 (-1)) m = if m = c.toNat then -1 else cell P m := fun m hm => cell_mod (col hP) (by omega)
  have eN : ∀ m < 4, cell (N.modify c.toNat fun r => r.set 0 0) m = if m = c.toNat then 0 else cell N m := fun m hm => cell_mod (col hN) (by omega)
  refine sf_iff.2 ⟨fun r hr => ?_, fun m hm => ?_⟩
  · obtain ⟨a1, a2, a3, a4, a5⟩ := h1 r hr
    refine ⟨a1, a2, a3, a4, a5.len, fun m hm => by have := a5.le m hm; omega, fun m hm g1 g2 => ?_⟩
    rw [eN m hm] at g2
    rw [eP m hm]
    split at g2
    · omega
    · rename_i ne
      rw [if_neg ne]; exact a5.ok m hm g1 g2
  · obtain ⟨b1, b2, b3⟩ := h2 m hm
    rw [eN m hm, eP m hm]
    split
    · exact ⟨⟨fun _ => rfl, fun _ => rfl⟩, by omega, by omega⟩
    · exact ⟨b1, b2, by omega⟩
theorem near_le (h : nearB P now = true) (h0 : 0 ≤ now) {m : Nat} (hm : m < P.length) : cell P m = -1 ∨ now - 1 ≤ cell P m ∧ cell P m ≤ now := by
  have := near_at (c := m) h (by omega) (by omega)
  simpa using this
/-- The rows of slices in slices. -/
theorem rowS_set {T : Tab} {g : Int} {r : List Int} (hg : 0 ≤ g) (hf : 0 ≤ f) (h : f < T.length) : rowS (T.set f.toNat r) g = if g = f then r else rowS T g := by
  unfold rowS
  rw [List.getD_eq_getElem?_getD, List.getElem?_set]
  by_cases e : g = f
  · subst e; rw [if_pos rfl, if_pos rfl, if_pos (by omega)]; rfl
  · rw [if_neg e, if_neg (by omega), List.getD_eq_getElem?_getD]
theorem four_cells {N : Tab} (hN : ∀ r ∈ N, okRow [.i .i64] r) (lN : (N.length : Int) = 4) : ∀ m < 4, ([cell N 0, cell N 1, cell N 2, cell N 3] : List Int).getD m 0 = cell N m := by
  intro m hm
  match m, hm with
  | 0, _ => rfl
  | 1, _ => rfl
  | 2, _ => rfl
  | 3, _ => rfl
/-- Retire. -/
theorem sf_ret (h : sfB P A S N now i = true) (hn : nearB P now = true) (hN : ∀ r ∈ N, okRow [.i .i64] r) (lP : (P.length : Int) = 4) (lN : (N.length : Int) = 4) (lS : (S.length : Int) = 64) (h0 : 0 ≤ now)
    (f0 : 0 ≤ f) (f1 : f ≤ 63) (hp : retI A f = 0) : sfB P (retL A f now) (S.set f.toNat [cell N 0, cell N 1, cell N 2, cell N 3]) N now (i + 1) = true := by
  obtain ⟨h1, h2⟩ := sf_iff.1 h
  have hk : (findK A f).length = 0 := by
    by_cases e : (findK A f).length = 0
    · exact e
    · rw [retI, if_neg (by omega), if_neg e] at hp; cases hp
  have hne : ∀ r ∈ A, hdK r ≠ f := fun r hr e => by
    have : r ∈ findK A f := List.mem_filter.2 ⟨hr, by simpa using e⟩
    rw [List.length_eq_zero_iff.1 hk] at this; cases this
  have hd : ∀ r : List Int, r.getD 0 0 = hdK r := hd_getD
  rw [retL, if_pos hp]
  refine sf_iff.2 ⟨fun r hr => ?_, fun m hm => ?_⟩
  · have hr' : r = [f, now] ∨ r ∈ A := by
      unfold putK at hr
      rcases List.mem_append.1 hr with g | g
      · exact .inr (List.mem_filter.1 g).1
      · rcases List.mem_cons.1 g with g | g
        · exact .inl g
        · exact .inr (List.mem_filter.1 g).1
    rcases hr' with rfl | hr'
    · refine ⟨f0, f1, h0, Int.le_refl _, ?_⟩
      show Safe _ _ _ f now (i + 1)
      refine ⟨by rw [rowS_set f0 f0 (by omega), if_pos rfl]; rfl, fun m hm => ?_, fun m hm _ _ => ?_⟩
      · rw [rowS_set f0 f0 (by omega), if_pos rfl, four_cells hN lN m hm]
        have := (h2 m hm).2.2; omega
      · rcases near_le hn h0 (m := m) (by omega) with e | e <;> omega
    · obtain ⟨a1, a2, a3, a4, a5⟩ := h1 r hr'
      have e : rowS (S.set f.toNat [cell N 0, cell N 1, cell N 2, cell N 3]) (r.getD 0 0) = rowS S (r.getD 0 0) := by
        rw [rowS_set a1 f0 (by omega), if_neg (by rw [hd]; exact hne r hr')]
      refine ⟨a1, a2, a3, a4, ?_⟩
      refine ⟨by rw [e]; exact a5.len, fun m hm => by rw [e]; have := a5.le m hm; omega, fun m hm => by rw [e]; exact a5.ok m hm⟩
  · obtain ⟨b1, b2, b3⟩ := h2 m hm
    exact ⟨b1, b2, by omega⟩
/-- Free. -/
theorem gone_of {L : Tab} (hrow : ∀ r ∈ L, Gone S N (r.getD 0 0)) (ha : ∀ r ∈ L, ∀ a ∈ A, ¬ a.getD 0 0 = r.getD 0 0) (hp : L.Pairwise fun r a => ¬ a.getD 0 0 = r.getD 0 0) : goneL A S N L = true := by
  induction L with
  | nil => rfl
  | cons r L ih =>
    rw [List.pairwise_cons] at hp
    rw [goneL, Bool.and_eq_true, Bool.and_eq_true, Bool.and_eq_true, gone_iff, List.all_eq_true, List.all_eq_true]
    refine ⟨⟨hrow r (List.mem_cons_self ..), fun a h => ?_, fun a h => ?_⟩, ih (fun s hs => hrow s (List.mem_cons_of_mem _ hs)) (fun s hs => ha s (List.mem_cons_of_mem _ hs)) hp.2⟩
    · have := ha r (List.mem_cons_self ..) a h; simpa using this
    · have := hp.1 a h; simpa using this
theorem gone_cons {r : List Int} (h : goneL A S N (r :: L) = true) : Gone S N (r.getD 0 0) ∧ (∀ a ∈ A, ¬ a.getD 0 0 = r.getD 0 0) ∧ (∀ a ∈ L, ¬ a.getD 0 0 = r.getD 0 0) ∧ goneL A S N L = true := by
  rw [goneL, Bool.and_eq_true, Bool.and_eq_true, Bool.and_eq_true, gone_iff, List.all_eq_true, List.all_eq_true] at h
  obtain ⟨⟨h1, h2, h3⟩, h4⟩ := h
  exact ⟨h1, fun a ha => by simpa using h2 a ha, fun a ha => by simpa using h3 a ha, h4⟩
theorem sf_keep {p : List Int → Bool} (h : sfB P A S N now i = true) : sfB P (keepT p A) S N now i = true := by
  obtain ⟨h1, h2⟩ := sf_iff.1 h
  exact sf_iff.2 ⟨fun r hr => h1 r (List.mem_filter.1 hr).1, h2⟩
theorem free_gone (h : sfB P A S N now i = true) (hk : A.Pairwise fun a b => hdK a < hdK b) (hn : nearB P now = true) (lP : (P.length : Int) = 4) (h0 : 0 ≤ now) (hb : now ≤ 120) :
    goneL (keepT (oldP now) A) S N ((keyT (oldP now) A).drop (0 : Int).toNat) = true := by
  obtain ⟨h1, h2⟩ := sf_iff.1 h
  show goneL _ _ _ (keyT (oldP now) A) = true
  refine gone_of (fun r hr => ?_) (fun r hr a ha => ?_) ?_
  · obtain ⟨s, hs, rfl⟩ := List.mem_map.1 hr
    obtain ⟨hsA, hso⟩ := List.mem_filter.1 hs
    obtain ⟨a1, a2, a3, a4, a5⟩ := h1 s hsA
    have hw : IntKind.i64.wrap (s.getD 1 0 + 2) = s.getD 1 0 + 2 := wrap_in (by simp only [kmin]; omega) (by simp only [kmax]; omega)
    have hold : s.getD 1 0 + 2 ≤ now := by
      have := of_decide_eq_true hso
      rwa [hw] at this
    rw [hd_getD] at a1 a2 a5
    refine ⟨a1, a2, a5.len, fun c hc g1 g2 => ?_⟩
    have g3 := a5.ok c hc g1 g2
    rcases near_le hn h0 (m := c) (by omega) with e | e
    · have := (h2 c hc).1.2 e
      omega
    · omega
  · obtain ⟨s, hs, rfl⟩ := List.mem_map.1 hr
    obtain ⟨hsA, hso⟩ := List.mem_filter.1 hs
    obtain ⟨haA, hao⟩ := List.mem_filter.1 ha
    intro e
    rw [hd_getD] at e
    have := key_same hk haA hsA e
    rw [this, hso] at hao
    cases hao
  · unfold keyT
    rw [List.pairwise_map]
    exact (hk.filter _).imp fun {a b} hab e => by
      have e : hdK b = hdK a := e
      omega
theorem gone_step (h : goneL A S N (L.drop k.toNat) = true) (k0 : 0 ≤ k) (k1 : k < L.length) : Gone S N ((L.getD k.toNat []).getD 0 0) := by
  rw [drop_step k0 k1] at h
  exact (gone_cons h).1
theorem gone_set (h : goneL A S N (L.drop k.toNat) = true) (k0 : 0 ≤ k) (k1 : k < L.length) (lS : (S.length : Int) = 64) (hs : sfB P A S N now i = true) :
    goneL A (S.set ((L.getD k.toNat []).getD 0 0).toNat []) N (L.drop (k + 1).toNat) = true ∧ sfB P A (S.set ((L.getD k.toNat []).getD 0 0).toNat []) N now i = true := by
  rw [drop_step k0 k1] at h
  obtain ⟨g1, g2, g3, g4⟩ := gone_cons h
  generalize (L.getD k.toNat []).getD 0 0 = f at *
  constructor
  · have : ∀ (L : Tab), (∀ a ∈ L, ¬ a.getD 0 0 = f) → goneL A S N L = true → goneL A (S.set f.toNat []) N L = true := by
      intro L
      induction L with
      | nil => exact fun _ _ => rfl
      | cons r L ih =>
        intro hne hg
        obtain ⟨q1, q2, q3, q4⟩ := gone_cons hg
        have ihh := ih (fun a ha => hne a (List.mem_cons_of_mem _ ha)) q4
        have e : rowS (S.set f.toNat []) (r.getD 0 0) = rowS S (r.getD 0 0) := by rw [rowS_set q1.b0 g1.b0 (by have := g1.b1; omega), if_neg (hne r (List.mem_cons_self ..))]
        rw [goneL, Bool.and_eq_true, Bool.and_eq_true, Bool.and_eq_true, gone_iff, List.all_eq_true, List.all_eq_true]
        exact ⟨⟨⟨q1.b0, q1.b1, by rw [e]; exact q1.len, fun c hc => by rw [e]; exact q1.no c hc⟩, fun a ha => by have := q2 a ha; simpa using this, fun a ha => by have := q3 a ha; simpa using this⟩, ihh⟩
    exact this _ g3 g4
  · obtain ⟨h1, h2⟩ := sf_iff.1 hs
    refine sf_iff.2 ⟨fun r hr => ?_, h2⟩
    obtain ⟨a1, a2, a3, a4, a5⟩ := h1 r hr
    have e : rowS (S.set f.toNat []) (r.getD 0 0) = rowS S (r.getD 0 0) := by rw [rowS_set a1 g1.b0 (by have := g1.b1; omega), if_neg (g2 r hr)]
    exact ⟨a1, a2, a3, a4, by rw [e]; exact a5.len, fun c hc => by rw [e]; exact a5.le c hc, fun c hc => by rw [e]; exact a5.ok c hc⟩
theorem wrap_in' {n : Int} (h0 : -9223372036854775808 ≤ n) (h1 : n ≤ 9223372036854775807) : IntKind.i64.wrap n = n := wrap_in (by simp only [kmin]; omega) (by simp only [kmax]; omega)
theorem and3 (x : Int) : 0 ≤ Go.bits .and .i64 x 3 ∧ Go.bits .and .i64 x 3 ≤ 3 := by
  have h : Go.bits .and .i64 x 3 = IntKind.i64.wrap (((x % 2 ^ 64).toNat &&& 3 : Nat) : Int) := by
    show IntKind.i64.wrap ((BitVec.ofInt 64 x &&& BitVec.ofInt 64 3).toNat : Int) = _
    rw [BitVec.toNat_and, BitVec.toNat_ofInt, BitVec.toNat_ofInt]; rfl
  have hl : (x % 2 ^ 64).toNat &&& 3 ≤ 3 := Nat.and_le_right
  rw [h, wrap_in' (by omega) (by omega)]
  omega
theorem and63 (x : Int) : 0 ≤ Go.bits .and .i64 x 63 ∧ Go.bits .and .i64 x 63 ≤ 63 := by
  have h : Go.bits .and .i64 x 63 = IntKind.i64.wrap (((x % 2 ^ 64).toNat &&& 63 : Nat) : Int) := by
    show IntKind.i64.wrap ((BitVec.ofInt 64 x &&& BitVec.ofInt 64 63).toNat : Int) = _
    rw [BitVec.toNat_and, BitVec.toNat_ofInt, BitVec.toNat_ofInt]; rfl
  have hl : (x % 2 ^ 64).toNat &&& 63 ≤ 63 := Nat.and_le_right
  rw [h, wrap_in' (by omega) (by omega)]
  omega
theorem rowT_len (S : Tab) (f : Int) : ((rowT S f).length : Int) = ((rowS S f).length : Int) := by simp [rowT]
theorem rowT_get (S : Tab) (f : Int) (n : Nat) : ((rowT S f).getD n []).getD 0 0 = (rowS S f).getD n 0 := by
  unfold rowT rowS
  generalize S.getD f.toNat [] = r
  simp only [List.getD_eq_getElem?_getD, List.getElem?_map]
  cases r[n]? <;> rfl
end Go.SF.C10
