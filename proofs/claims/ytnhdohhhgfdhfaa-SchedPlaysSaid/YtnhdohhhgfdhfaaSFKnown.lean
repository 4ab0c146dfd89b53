/- What the machine holds for known on a way is so. -/
import Derived.Test.YtnhdohhhgfdhfaaSFExpr
namespace Go.SF
set_option linter.unusedVariables false
set_option linter.unusedSimpArgs false

theorem wrap_in {k : IntKind} {n : Int} (h1 : kmin k ≤ n) (h2 : n ≤ kmax k) : k.wrap n = n := by
  cases k <;> simp [kmin, kmax, IntKind.wrap, IntKind.bits, IntKind.signed] at * <;> first | omega | (split <;> omega)
theorem wrap_lo (k : IntKind) (n : Int) : kmin k ≤ k.wrap n := by
  cases k <;> simp [kmin, kmax, IntKind.wrap, IntKind.bits, IntKind.signed] <;> first | omega | (split <;> omega)
theorem wrap_hi (k : IntKind) (n : Int) : k.wrap n ≤ kmax k := by
  cases k <;> simp [kmin, kmax, IntKind.wrap, IntKind.bits, IntKind.signed] <;> first | omega | (split <;> omega)

section
variable (Φ : Sig) (ρ : Env)

/-- All facts of a way are so. -/
def holds (pc : List SB) : Prop := ∀ c ∈ pc, c.ev Φ ρ = true

theorem holds_nil : holds Φ ρ [] := by intro c h; cases h
theorem holds_cons {x : SB} {pc : List SB} (hx : x.ev Φ ρ = true) (h : holds Φ ρ pc) : holds Φ ρ (x :: pc) := by
  intro c hc
  rcases List.mem_cons.1 hc with rfl | hc
  · exact hx
  · exact h c hc
theorem holds_app {pc pc' : List SB} (h : holds Φ ρ pc) (h' : holds Φ ρ pc') : holds Φ ρ (pc ++ pc') := by
  intro c hc
  rcases List.mem_append.1 hc with hc | hc
  · exact h c hc
  · exact h' c hc

def evO : Option SI → Int
  | none => 0
  | some e => e.ev Φ ρ

theorem lin_ok : ∀ (e : SI), e.ev Φ ρ = evO Φ ρ (lin e).1 + (lin e).2 := by
  intro e
  cases e with
  | add a b =>
    cases b with
    | c n => have := lin_ok a; simp [lin]; omega
    | _ => simp [lin, evO]
  | sub a b =>
    cases b with
    | c n => have := lin_ok a; simp [lin]; omega
    | _ => simp [lin, evO]
  | _ => simp [lin, evO]
termination_by e => SizeOf.sizeOf e

def DF.ok (d : DF) : Prop := evO Φ ρ d.a - evO Φ ρ d.b ≤ d.k
theorem dLe_ok {x y : SI} {off : Int} (h : x.ev Φ ρ ≤ y.ev Φ ρ + off) : (dLe x y off).ok Φ ρ := by
  have hx := lin_ok Φ ρ x
  have hy := lin_ok Φ ρ y
  unfold dLe DF.ok
  revert hx hy
  cases lin x; cases lin y
  simp only
  intro hx hy
  omega

theorem diffs_ok {f : SB} (hf : f.ev Φ ρ = true) : ∀ d ∈ diffs f, d.ok Φ ρ := by
  unfold diffs
  split <;> simp at hf ⊢
  · exact dLe_ok Φ ρ (by omega)
  · exact dLe_ok Φ ρ (by omega)
  · exact ⟨dLe_ok Φ ρ (by omega), dLe_ok Φ ρ (by omega)⟩
  · exact dLe_ok Φ ρ (by omega)
  · exact dLe_ok Φ ρ (by omega)
theorem diffsAll_ok : ∀ {pc : List SB}, holds Φ ρ pc → ∀ d ∈ diffsAll pc, d.ok Φ ρ
  | [], _, d, hd => by simp [diffsAll] at hd
  | f :: fs, h, d, hd => by
    simp only [diffsAll, List.mem_append] at hd
    rcases hd with hd | hd
    · exact diffs_ok Φ ρ (h f (List.mem_cons_self ..)) d hd
    · exact diffsAll_ok (fun c hc => h c (List.mem_cons_of_mem _ hc)) d hd

theorem minO_ok {x y : Option Int} {n m : Int} (h : minO x y = some n) (hx : ∀ k, x = some k → m ≤ k) (hy : ∀ k, y = some k → m ≤ k) : m ≤ n := by
  cases x with
  | none => simp [minO] at h; exact hy n h
  | some a =>
    cases y with
    | none => simp [minO] at h; exact hx n (by rw [h])
    | some b =>
      simp only [minO, Option.some.injEq] at h
      split at h
      · exact hx n (by rw [h])
      · exact hy n (by rw [h])
theorem addO_ok {x y : Option Int} {n : Int} (h : addO x y = some n) : ∃ a b, x = some a ∧ y = some b ∧ n = a + b := by
  cases x <;> cases y <;> simp [addO] at h
  exact ⟨_, _, rfl, rfl, h.symm⟩

def RecOK (rec : Option SI → Option SI → Option Int) : Prop := ∀ a b k, rec a b = some k → evO Φ ρ a - evO Φ ρ b ≤ k

omit Φ ρ in
theorem std5_hi (xs : List Arg) : stdI 5 xs ≤ 255 := by
  unfold stdI
  split <;> first | contradiction | skip
  · rename_i a i _
    unfold atS
    have := ((strB a).getD i.toNat 0).toNat_lt
    omega
  · omega
omit Φ ρ in
theorem std_lo (f : Nat) (h1 : 1 < f) (h2 : f < 8) (xs : List Arg) : 0 ≤ stdI f xs := by
  unfold stdI
  split
  · omega
  · omega
  · exact Int.ediv_nonneg (by omega) (by omega)
  · exact Int.natCast_nonneg _
  · exact Int.natCast_nonneg _
  · exact Int.natCast_nonneg _
  · exact Int.natCast_nonneg _
  · exact Int.natCast_nonneg _
  · omega
theorem shU_ok {rec : Option SI → Option SI → Option Int} (hr : RecOK Φ ρ rec) {e : SI} {k : Int} (h : shU rec e = some k) : e.ev Φ ρ ≤ k := by
  unfold shU at h
  split at h
  · simp at h; subst h; simp; exact wrap_hi _ _
  · rename_i a m
    split at h
    · rename_i hm
      simp at h; subst h
      have := Int.tmod_lt_of_pos (a.ev Φ ρ) hm
      simp; omega
    · cases h
  · obtain ⟨x, y, hx, hy, rfl⟩ := addO_ok h
    have h1 := hr _ _ _ hx; have h2 := hr _ _ _ hy
    simp [evO] at *; omega
  · obtain ⟨x, y, hx, hy, rfl⟩ := addO_ok h
    have h1 := hr _ _ _ hx; have h2 := hr _ _ _ hy
    simp [evO] at *; omega
  · rename_i a b
    refine minO_ok h (fun n hn => ?_) (fun n hn => ?_) <;> have := hr _ _ _ hn <;> simp [evO, ev_app, appI_std Φ (show 0 < 100 by omega), stdI] at * <;> omega
  · rename_i a n
    have := hr _ _ _ h
    have h2 := List.length_take_le (n.ev Φ ρ).toNat (a.ev Φ ρ)
    simp [evO, ev_len, evL_app, appL_std Φ (show 1 < 100 by omega), stdL] at *; omega
  · rename_i a n
    have := hr _ _ _ h
    simp [evO, ev_len, evL_app, appL_std Φ (show 2 < 100 by omega), stdL] at *; omega
  · simp at h; subst h; rw [ev_app, appI_std Φ (show 5 < 100 by omega)]; exact std5_hi _
  · simp at h; subst h; simp
  · cases h
theorem shL_ok {rec : Option SI → Option SI → Option Int} (hr : RecOK Φ ρ rec) {e : SI} {k : Int} (h : shL rec e = some k) : -(e.ev Φ ρ) ≤ k := by
  unfold shL at h
  split at h
  · simp at h; subst h; have := wrap_lo (by assumption) (SI.ev Φ ρ (by assumption)); simp; assumption
  · rename_i a m
    split at h
    · rename_i hm
      have h1 := Int.lt_tmod_of_pos (a.ev Φ ρ) hm
      split at h
      · rename_i l hl
        split at h
        · rename_i h0
          simp at h; subst h
          have h2 := hr _ _ _ hl
          simp [evO] at h2
          have := Int.tmod_nonneg (a := a.ev Φ ρ) m (by omega)
          simp; omega
        · simp at h; subst h; simp; omega
      · simp at h; subst h; simp; omega
    · cases h
  · simp at h; subst h; simp [ev_len]
  · obtain ⟨x, y, hx, hy, rfl⟩ := addO_ok h
    have h1 := hr _ _ _ hx; have h2 := hr _ _ _ hy
    simp [evO] at *; omega
  · obtain ⟨x, y, hx, hy, rfl⟩ := addO_ok h
    have h1 := hr _ _ _ hx; have h2 := hr _ _ _ hy
    simp [evO] at *; omega
  · rename_i a b
    refine minO_ok h (fun n hn => ?_) (fun n hn => ?_) <;> have := hr _ _ _ hn <;> simp [evO, ev_app, appI_std Φ (show 1 < 100 by omega), stdI] at * <;> omega
  · rename_i f xs _
    split at h
    · rename_i hf
      simp only [Bool.and_eq_true, Nat.blt_eq] at hf
      simp at h; subst h
      rw [ev_app, appI_std Φ (show f < 100 by omega)]
      have := std_lo f hf.1 hf.2 (xs.ev Φ ρ)
      omega
    · cases h
  · simp at h; subst h; simp
  · cases h

def UdOK (u : Bool → SI → Option Int) : Prop := ∀ m e k, u m e = some k → (if m then e.ev Φ ρ else -(e.ev Φ ρ)) ≤ k
theorem rec2_ok {u : Bool → SI → Option Int} (hu : UdOK Φ ρ u) : RecOK Φ ρ (rec2 u) := by
  intro a b k h
  unfold rec2 at h
  split at h
  · have := hu _ _ _ h; simp [evO] at this ⊢; omega
  · have := hu _ _ _ h; simp [evO] at this ⊢; omega
  · simp at h; subst h; simp [evO]
  · cases h
theorem upD_ok {rec : SI → Option Int} (hr : ∀ e k, rec e = some k → e.ev Φ ρ ≤ k) {vis : List SI} {a : SI} : ∀ {ds : List DF} {k : Int}, (∀ d ∈ ds, d.ok Φ ρ) → upD rec vis a ds = some k → a.ev Φ ρ ≤ k
  | [], k, _, h => by simp [upD] at h
  | f :: fs, k, hd, h => by
    simp only [upD] at h
    refine minO_ok h (fun n hn => ?_) (fun n hn => upD_ok hr (fun d h => hd d (List.mem_cons_of_mem _ h)) hn)
    have hf := hd f (List.mem_cons_self ..)
    unfold DF.ok at hf
    split at hn
    · rename_i x hx
      split at hn
      · rename_i hs
        have hs := SI.same_eq _ _ hs
        subst hs
        split at hn
        · rename_i hy
          simp at hn; subst hn
          rw [hx, hy] at hf; simp [evO] at hf; omega
        · rename_i y hy
          split at hn
          · cases hn
          · obtain ⟨p, q, hp, hq, rfl⟩ := addO_ok hn
            simp at hp; subst hp
            have := hr _ _ hq
            rw [hx, hy] at hf; simp [evO] at hf; omega
      · cases hn
    · cases hn
theorem dnD_ok {rec : SI → Option Int} (hr : ∀ e k, rec e = some k → -(e.ev Φ ρ) ≤ k) {vis : List SI} {a : SI} : ∀ {ds : List DF} {k : Int}, (∀ d ∈ ds, d.ok Φ ρ) → dnD rec vis a ds = some k → -(a.ev Φ ρ) ≤ k
  | [], k, _, h => by simp [dnD] at h
  | f :: fs, k, hd, h => by
    simp only [dnD] at h
    refine minO_ok h (fun n hn => ?_) (fun n hn => dnD_ok hr (fun d h => hd d (List.mem_cons_of_mem _ h)) hn)
    have hf := hd f (List.mem_cons_self ..)
    unfold DF.ok at hf
    split at hn
    · rename_i x hx
      split at hn
      · rename_i hs
        have hs := SI.same_eq _ _ hs
        subst hs
        split at hn
        · rename_i hy
          simp at hn; subst hn
          rw [hx, hy] at hf; simp [evO] at hf; omega
        · rename_i y hy
          split at hn
          · cases hn
          · obtain ⟨p, q, hp, hq, rfl⟩ := addO_ok hn
            simp at hp; subst hp
            have := hr _ _ hq
            rw [hx, hy] at hf; simp [evO] at hf; omega
      · cases hn
    · cases hn
theorem paD_ok {rec : SI → Option Int} {b : SI} (hr : ∀ e k, rec e = some k → e.ev Φ ρ - b.ev Φ ρ ≤ k) {vis : List SI} {a : SI} : ∀ {ds : List DF} {k : Int}, (∀ d ∈ ds, d.ok Φ ρ) → paD rec vis a b ds = some k → a.ev Φ ρ - b.ev Φ ρ ≤ k
  | [], k, _, h => by simp [paD] at h
  | f :: fs, k, hd, h => by
    simp only [paD] at h
    refine minO_ok h (fun n hn => ?_) (fun n hn => paD_ok hr (fun d h => hd d (List.mem_cons_of_mem _ h)) hn)
    have hf := hd f (List.mem_cons_self ..)
    unfold DF.ok at hf
    split at hn
    · rename_i x hx
      split at hn
      · rename_i hs
        have hs := SI.same_eq _ _ hs
        subst hs
        split at hn
        · cases hn
        · rename_i y hy
          split at hn
          · rename_i hs2
            have hs2 := SI.same_eq _ _ hs2
            subst hs2
            simp at hn; subst hn
            rw [hx, hy] at hf; simp [evO] at hf; omega
          · split at hn
            · cases hn
            · obtain ⟨p, q, hp, hq, rfl⟩ := addO_ok hn
              simp at hp; subst hp
              have := hr _ _ hq
              rw [hx, hy] at hf; simp [evO] at hf; omega
      · cases hn
    · cases hn
theorem ud_ok {ds : List DF} (hd : ∀ d ∈ ds, d.ok Φ ρ) : ∀ (n : Nat) (vis : List SI), UdOK Φ ρ (ud n ds vis)
  | 0, _ => fun m e k h => by cases m <;> simp [ud] at h
  | n + 1, vis => fun m e k h => by
    have ih := ud_ok hd n
    have h2 := rec2_ok Φ ρ (ih [])
    cases m
    · simp only [ud] at h
      refine minO_ok h (fun k hk => ?_) (fun k hk => ?_)
      · simpa using shL_ok Φ ρ h2 hk
      · simpa using dnD_ok Φ ρ (fun e k hk => by simpa using ih _ false e k hk) hd hk
    · simp only [ud] at h
      refine minO_ok h (fun k hk => ?_) (fun k hk => ?_)
      · simpa using shU_ok Φ ρ h2 hk
      · simpa using upD_ok Φ ρ (fun e k hk => by simpa using ih _ true e k hk) hd hk
theorem pa_ok {ds : List DF} (hd : ∀ d ∈ ds, d.ok Φ ρ) : ∀ (n : Nat) (vis : List SI) (a b : SI) (k : Int), pa n ds vis a b = some k → a.ev Φ ρ - b.ev Φ ρ ≤ k
  | 0, _, a, b, k, h => by simp [pa] at h
  | n + 1, vis, a, b, k, h => paD_ok Φ ρ (fun e k hk => pa_ok hd n _ e b k hk) hd h
theorem ub_ok {ds : List DF} (hd : ∀ d ∈ ds, d.ok Φ ρ) (n : Nat) : RecOK Φ ρ (ub n ds) := by
  intro a b k h
  have hu := ud_ok Φ ρ hd n []
  unfold ub at h
  split at h
  · simp at h; subst h; simp [evO]
  · have := hu _ _ _ h; simp at this; simp [evO]; omega
  · have := hu _ _ _ h; simp at this; simp [evO]; omega
  · split at h
    · rename_i hs
      rw [SI.same_eq _ _ hs]; simp at h; subst h; simp
    · refine minO_ok h (fun m hm => pa_ok Φ ρ hd _ _ _ _ _ hm) (fun m hm => ?_)
      obtain ⟨p, q, hp, hq, rfl⟩ := addO_ok hm
      have h1 := hu _ _ _ hp
      have h2 := hu _ _ _ hq
      simp at h1 h2
      simp only [evO]; omega

theorem hi_ok {pc : List SB} (hp : holds Φ ρ pc) {e : SI} {n : Int} (h : hiOf pc e = some n) : e.ev Φ ρ ≤ n := by
  have hl := lin_ok Φ ρ e
  unfold hiOf at h
  revert h hl
  cases lin e
  simp only
  intro h hl
  obtain ⟨x, y, hx, hy, rfl⟩ := addO_ok h
  have := ub_ok Φ ρ (diffsAll_ok Φ ρ hp) _ _ _ _ hx
  simp [evO] at *; omega
theorem lo_ok {pc : List SB} (hp : holds Φ ρ pc) {e : SI} {n : Int} (h : loOf pc e = some n) : -(e.ev Φ ρ) ≤ n := by
  have hl := lin_ok Φ ρ e
  unfold loOf at h
  revert h hl
  cases lin e
  simp only
  intro h hl
  obtain ⟨x, y, hx, hy, rfl⟩ := addO_ok h
  have := ub_ok Φ ρ (diffsAll_ok Φ ρ hp) _ _ _ _ hx
  simp [evO] at *; omega

theorem outs_ok {e : SI} : ∀ {pc : List SB} {h l : Option Int}, holds Φ ρ pc → (∀ n, h = some n → e.ev Φ ρ ≤ n) → (∀ n, l = some n → -(e.ev Φ ρ) ≤ n) →
    (∀ n, (outs e pc h l).1 = some n → e.ev Φ ρ ≤ n) ∧ (∀ n, (outs e pc h l).2 = some n → -(e.ev Φ ρ) ≤ n)
  | [], h, l, _, hh, hl => by simpa [outs] using ⟨hh, hl⟩
  | f :: fs, h, l, hp, hh, hl => by
    have hp' : holds Φ ρ fs := fun c hc => hp c (List.mem_cons_of_mem _ hc)
    have hf := hp f (List.mem_cons_self ..)
    unfold outs
    split
    · rename_i heq; cases heq
    · rename_i x n r h' l' heq
      simp only [List.cons.injEq] at heq
      obtain ⟨rfl, rfl⟩ := heq
      split
      · rename_i hs
        have := SI.same_eq _ _ hs
        subst this
        simp at hf
        refine outs_ok hp' ?_ ?_
        · intro m hm
          split at hm
          · rename_i hn; simp at hm; have := hh _ hn; omega
          · exact hh m hm
        · intro m hm
          split at hm
          · rename_i hn; simp at hm; have := hl _ hn; omega
          · exact hl m hm
      · exact outs_ok hp' hh hl
    · rename_i heq
      simp only [List.cons.injEq] at heq
      obtain ⟨rfl, rfl⟩ := heq
      exact outs_ok hp' hh hl

theorem ends_ok {pc : List SB} (hp : holds Φ ρ pc) (e : SI) : (∀ n, (ends pc e).1 = some n → e.ev Φ ρ ≤ n) ∧ (∀ n, (ends pc e).2 = some n → -(e.ev Φ ρ) ≤ n) := by
  have h0 := outs_ok Φ ρ (e := e) hp (fun n h => hi_ok Φ ρ hp h) (fun n h => lo_ok Φ ρ hp h)
  unfold ends
  generalize outs e pc (hiOf pc e) (loOf pc e) = r at *
  obtain ⟨h, l⟩ := r
  have h1 := outs_ok Φ ρ (e := e) hp h0.1 h0.2
  simp only at h1 ⊢
  generalize outs e pc h l = r at *
  obtain ⟨h, l⟩ := r
  exact outs_ok Φ ρ (e := e) hp h1.1 h1.2

theorem leO_ok {x : Option Int} {n : Int} (h : leO x n = true) : ∃ m, x = some m ∧ m ≤ n := by
  cases x with
  | none => simp [leO] at h
  | some m => exact ⟨m, rfl, by simpa [leO] using h⟩

theorem knownLe_ok {pc : List SB} (hp : holds Φ ρ pc) {x y : SI} {off : Int} (h : knownLe pc x y off = true) : x.ev Φ ρ ≤ y.ev Φ ρ + off := by
  have hx := lin_ok Φ ρ x
  have hy := lin_ok Φ ρ y
  unfold knownLe at h
  cases h1 : lin x with
  | mk a n =>
  cases h2 : lin y with
  | mk b m =>
    rw [h1] at h hx; rw [h2] at h hy
    simp only at h hx hy
    split at h
    · obtain ⟨k, hk, hle⟩ := leO_ok h
      have := (ends_ok Φ ρ hp x).1 _ hk
      simp [evO] at hy; omega
    · split at h
      · obtain ⟨k, hk, hle⟩ := leO_ok h
        have := (ends_ok Φ ρ hp y).2 _ hk
        simp [evO] at hx; omega
      · obtain ⟨k, hk, hle⟩ := leO_ok h
        have := ub_ok Φ ρ (diffsAll_ok Φ ρ hp) _ _ _ _ hk
        omega

theorem any_fact {pc : List SB} {x : SB} (hp : holds Φ ρ pc) (h : pc.any (fun f => SB.same f x) = true) : x.ev Φ ρ = true := by
  obtain ⟨f, hf, hs⟩ := List.any_eq_true.1 h
  rw [← SB.same_ev Φ ρ _ _ hs]; exact hp f hf

theorem knownAt_ok {pc : List SB} {x : SB} {b : Bool} (hp : holds Φ ρ pc) (h : knownAt pc x = some b) : x.ev Φ ρ = b := by
  unfold knownAt at h
  split at h
  · simpa using h
  · split at h
    · rename_i h1; have := knownLe_ok Φ ρ hp h1; simp at h; subst h; simp; omega
    · split at h
      · rename_i h1; have := knownLe_ok Φ ρ hp h1; simp at h; subst h; simp; omega
      · cases h
  · split at h
    · rename_i h1; have := knownLe_ok Φ ρ hp h1; simp at h; subst h; simp; omega
    · split at h
      · rename_i h1; have := knownLe_ok Φ ρ hp h1; simp at h; subst h; simp; omega
      · cases h
  · split at h
    · rename_i h1
      simp only [Bool.or_eq_true] at h1
      simp at h; subst h; simp
      rcases h1 with h1 | h1 <;> have := knownLe_ok Φ ρ hp h1 <;> omega
    · split at h
      · rename_i h1
        simp only [Bool.and_eq_true] at h1
        have h2 := knownLe_ok Φ ρ hp h1.1; have h3 := knownLe_ok Φ ρ hp h1.2
        simp at h; subst h; simp; omega
      · split at h
        · rename_i h1; have := any_fact Φ ρ hp h1; simp at this h; subst h; simpa using this
        · cases h
  · split at h
    · rename_i h1; simp at h; subst h; exact any_fact Φ ρ hp h1
    · split at h
      · rename_i h1; have := any_fact Φ ρ hp h1; simp at this h; subst h; exact this
      · cases h

theorem anyAt_ok {pc : List SB} {x : SB} {b : Bool} (hp : holds Φ ρ pc) (h : anyAt pc x = some b) : x.ev Φ ρ = b := by
  unfold anyAt at h
  split at h
  · rename_i h1; simp at h; subst h; exact any_fact Φ ρ hp h1
  · split at h
    · rename_i h1; simp at h; subst h
      have := any_fact Φ ρ hp h1
      simpa using this
    · cases h
theorem known_ok {pc : List SB} (hp : holds Φ ρ pc) : ∀ (x : SB) (b : Bool), known pc x = some b → x.ev Φ ρ = b := by
  intro x
  induction x with
  | not x ih =>
    intro b h
    simp only [known, Option.map_eq_some_iff] at h
    obtain ⟨c, hc, rfl⟩ := h
    simp [ih c hc]
  | and x y ih1 ih2 =>
    intro b h
    simp only [known] at h
    split at h
    · rename_i h1 h2; simp at h; subst h; simp [ih1 _ h1, ih2 _ h2]
    · rename_i h1; simp at h; subst h; simp [ih1 _ h1]
    · rename_i h1 _; simp at h; subst h; simp [ih2 _ h1]
    · exact anyAt_ok Φ ρ hp h
  | or x y ih1 ih2 =>
    intro b h
    simp only [known] at h
    split at h
    · rename_i h1 h2; simp at h; subst h; simp [ih1 _ h1, ih2 _ h2]
    · rename_i h1; simp at h; subst h; simp [ih1 _ h1]
    · rename_i h1 _; simp at h; subst h; simp [ih2 _ h1]
    · exact anyAt_ok Φ ρ hp h
  | _ => intro b h; exact knownAt_ok Φ ρ hp (by simpa [known] using h)

theorem addFact_ok {pc : List SB} {x : SB} (hp : holds Φ ρ pc) (h : x.ev Φ ρ = true) : holds Φ ρ (addFact pc x) := by
  unfold addFact
  split
  · exact hp
  · simp at h; exact holds_cons Φ ρ h.2 (holds_cons Φ ρ h.1 hp)
  · simp at h; exact holds_cons Φ ρ (by simp [h.2]) (holds_cons Φ ρ (by simp [h.1]) hp)
  · exact holds_cons Φ ρ h hp

theorem ways_at {pc : List SB} (x : SB) (hp : holds Φ ρ pc) : ∃ b pc', (b, pc') ∈ (match known pc x with | some b => [(b, pc)] | none => [(true, addFact pc x), (false, addFact pc (mkNot x))]) ∧ x.ev Φ ρ = b ∧ holds Φ ρ pc' := by
  cases hk : known pc x with
  | some b => exact ⟨b, pc, by simp, known_ok Φ ρ hp x b hk, hp⟩
  | none =>
    cases hx : x.ev Φ ρ with
    | true => exact ⟨true, addFact pc x, by simp, rfl, addFact_ok Φ ρ hp hx⟩
    | false => exact ⟨false, addFact pc (mkNot x), by simp, rfl, addFact_ok Φ ρ hp (by simp [hx])⟩
theorem ways_ok : ∀ {pc : List SB} (x : SB) (hp : holds Φ ρ pc), ∃ b pc', (b, pc') ∈ ways pc x ∧ x.ev Φ ρ = b ∧ holds Φ ρ pc'
  | pc, .and x y, hp => by
    unfold ways waysS
    cases hk : known pc (.and x y) with
    | some b => exact ⟨b, pc, by simp, known_ok Φ ρ hp _ b hk, hp⟩
    | none =>
      obtain ⟨b, pc1, h1, h2, h3⟩ := ways_ok x hp
      cases b with
      | true =>
        obtain ⟨c, pc2, g1, g2, g3⟩ := ways_ok y h3
        exact ⟨c, pc2, List.mem_flatMap.2 ⟨_, h1, by simpa [ways] using g1⟩, by simp [h2, g2], g3⟩
      | false => exact ⟨false, pc1, List.mem_flatMap.2 ⟨_, h1, by simp⟩, by simp [h2], h3⟩
  | pc, .or x y, hp => by
    unfold ways waysS
    cases hk : known pc (.or x y) with
    | some b => exact ⟨b, pc, by simp, known_ok Φ ρ hp _ b hk, hp⟩
    | none =>
      obtain ⟨b, pc1, h1, h2, h3⟩ := ways_ok x hp
      cases b with
      | false =>
        obtain ⟨c, pc2, g1, g2, g3⟩ := ways_ok y h3
        exact ⟨c, pc2, List.mem_flatMap.2 ⟨_, h1, by simpa [ways] using g1⟩, by simp [h2, g2], g3⟩
      | true => exact ⟨true, pc1, List.mem_flatMap.2 ⟨_, h1, by simp⟩, by simp [h2], h3⟩
  | pc, .not x, hp => by
    unfold ways waysS
    obtain ⟨b, pc1, h1, h2, h3⟩ := ways_ok x hp
    exact ⟨!b, pc1, List.mem_map.2 ⟨_, h1, rfl⟩, by simp [h2], h3⟩
  | pc, .c b, hp => ways_at Φ ρ (.c b) hp
  | pc, .v b, hp => ways_at Φ ρ (.v b) hp
  | pc, .lt a b, hp => ways_at Φ ρ (.lt a b) hp
  | pc, .le a b, hp => ways_at Φ ρ (.le a b) hp
  | pc, .eq a b, hp => ways_at Φ ρ (.eq a b) hp
  | pc, .eqL a b, hp => ways_at Φ ρ (.eqL a b) hp
  | pc, .app a b, hp => ways_at Φ ρ (.app a b) hp

theorem ev_mkWrap {pc : List SB} (hp : holds Φ ρ pc) (k : IntKind) (a : SI) : (mkWrap pc k a).ev Φ ρ = k.wrap (a.ev Φ ρ) := by
  unfold mkWrap
  split
  · simp
  · split
    · rename_i h
      simp only [Bool.and_eq_true] at h
      obtain ⟨m, hm, h1⟩ := leO_ok h.1
      obtain ⟨n, hn, h2⟩ := leO_ok h.2
      have := hi_ok Φ ρ hp hm; have := lo_ok Φ ρ hp hn
      rw [wrap_in (by omega) (by omega)]
    · simp

theorem nthI_ok : ∀ {xs : SA} {j : Nat} {x : SI}, nthI xs j = some x → (ints (xs.ev Φ ρ)).getD j 0 = x.ev Φ ρ
  | .i y r, 0, x, h => by simp [nthI] at h; subst h; simp [ints]
  | .i y r, j + 1, x, h => by simp only [nthI] at h; simpa [ints] using nthI_ok h
  | .nil, j, x, h => by cases j <;> simp [nthI] at h
  | .l _ _, j, x, h => by cases j <;> simp [nthI] at h

theorem ev_mkSel : ∀ (d : Nat) (A : SL) (r : SI) (j : Nat), (mkSel d A r j).ev Φ ρ = ((A.ev Φ ρ).getD (r.ev Φ ρ).toNat []).getD j 0 := by
  intro d
  induction d with
  | zero =>
    intro A r j
    unfold mkSel
    split <;> first | contradiction | skip
    · simp
    · split
      · rename_i h; simp [evL_app, appL_std Φ (show 3 < 100 by omega), stdL, ← nthI_ok Φ ρ h]
      · exact ev_sel ..
    · exact ev_sel ..
  | succ d ih =>
    intro A r j
    unfold mkSel
    split <;> first | contradiction | skip
    · simp
    · split
      · rename_i h; simp [evL_app, appL_std Φ (show 3 < 100 by omega), stdL, ← nthI_ok Φ ρ h]
      · exact ev_sel ..
    · rename_i r j _ _ _ _ d' a s k x he
      obtain rfl : d = d' := by omega
      split
      · exact ev_sel ..
      · rename_i hk
        split
        · rename_i h0
          rw [ih]
          simp only [evL_app, appL_std Φ (show 4 < 100 by omega), evA_l, evA_i, evA_nil, ev_c, stdL]
          generalize (a.ev Φ ρ) = T
          generalize (r.ev Φ ρ).toNat = rr
          have hne : ¬ k.toNat = j := fun e => hk (by rw [← e]; simp; omega)
          simp only [List.getD_eq_getElem?_getD, List.getElem?_modify]
          cases hT : T[rr]? with
          | none => simp
          | some row =>
            simp only [Option.map_some, Option.getD_some]
            split
            · simp [List.getElem?_set, hne]
            · rfl
        · exact ev_sel ..
    · exact ev_sel ..
theorem mod_len (T : Tab) (s r k : Nat) (x : Int) : ((T.modify s fun row => row.set k x).getD r []).length = (T.getD r []).length := by
  simp only [List.getD_eq_getElem?_getD, List.getElem?_modify]
  cases hT : T[r]? with
  | none => simp
  | some row => simp only [Option.map_some, Option.getD_some]; split <;> simp
theorem mod_ne (T : Tab) (s r k j : Nat) (x : Int) (h : ¬ k = j) : ((T.modify s fun row => row.set k x).getD r []).getD j 0 = (T.getD r []).getD j 0 := by
  simp only [List.getD_eq_getElem?_getD, List.getElem?_modify]
  cases hT : T[r]? with
  | none => simp
  | some row =>
    simp only [Option.map_some, Option.getD_some]
    split
    · simp [List.getElem?_set, h]
    · rfl
theorem mod_eq (T : Tab) (r k : Nat) (x : Int) (h : r < T.length) (hk : k < (T.getD r []).length) : ((T.modify r fun row => row.set k x).getD r []).getD k 0 = x := by
  have hT : T[r]? = some T[r] := List.getElem?_eq_getElem h
  simp only [List.getD_eq_getElem?_getD, hT, Option.getD_some] at hk
  simp only [List.getD_eq_getElem?_getD, List.getElem?_modify, hT, Option.map_some, Option.getD_some]
  simp [hk]
theorem selW_cases (d : Nat) (A : SL) (r : SI) (j : Nat) : (∃ a s k x, A = .app 4 (.l a (.i s (.i (.c k) (.i x .nil))))) ∨ mkSelW (d + 1) A r j = mkSel 60 A r j := by
  unfold mkSelW
  split
  · exact .inl ⟨_, _, _, _, rfl⟩
  · exact .inr rfl
theorem selW_set (d : Nat) (a : SL) (s : SI) (k : Int) (x r : SI) (j : Nat) : mkSelW (d + 1) (.app 4 (.l a (.i s (.i (.c k) (.i x .nil))))) r j =
    if k = Int.ofNat j then (if SI.same s r then x else mkSel d (.app 4 (.l a (.i s (.i (.c k) (.i x .nil))))) r j) else if 0 ≤ k then mkSelW d a r j else .sel (.app 4 (.l a (.i s (.i (.c k) (.i x .nil))))) r j := by
  conv => lhs; unfold mkSelW
  rfl
theorem ev_mkSelW : ∀ (d : Nat) (A : SL) (r : SI) (j : Nat), 0 ≤ r.ev Φ ρ → (r.ev Φ ρ).toNat < (A.ev Φ ρ).length → j < ((A.ev Φ ρ).getD (r.ev Φ ρ).toNat []).length →
    (mkSelW d A r j).ev Φ ρ = ((A.ev Φ ρ).getD (r.ev Φ ρ).toNat []).getD j 0
  | 0, A, r, j, _, _, _ => by unfold mkSelW; exact ev_mkSel ..
  | d + 1, A, r, j, h0, h1, h2 => by
    rcases selW_cases d A r j with ⟨a, s, k, x, rfl⟩ | e
    · rw [selW_set]
      have e : (SL.app 4 (.l a (.i s (.i (.c k) (.i x .nil))))).ev Φ ρ = (a.ev Φ ρ).modify (s.ev Φ ρ).toNat fun row => row.set k.toNat (x.ev Φ ρ) := by
        simp only [evL_app, appL_std Φ (show 4 < 100 by omega), evA_l, evA_i, evA_nil, ev_c, stdL]
      rw [e] at h1 h2 ⊢
      rw [List.length_modify] at h1
      rw [mod_len] at h2
      split
      · rename_i hk
        split
        · rename_i hs
          rw [SI.same_eq _ _ hs]
          have hkj : k.toNat = j := by rw [hk]; simp
          rw [hkj, mod_eq _ _ _ _ h1 h2]
        · rw [ev_mkSel, e]
      · rename_i hk
        split
        · rename_i hk0
          have hne : ¬ k.toNat = j := fun e => hk (by rw [← e]; simp; omega)
          rw [ev_mkSelW d a r j h0 h1 h2, mod_ne _ _ _ _ _ _ hne]
        · rw [ev_sel, e]
    · rw [e]; exact ev_mkSel ..
end
end Go.SF
