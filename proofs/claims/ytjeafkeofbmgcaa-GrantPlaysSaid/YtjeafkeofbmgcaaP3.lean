/- The laws of what is in use, and of Drop, in plain Lean. -/
import Derived.Test.YtjeafkeofbmgcaaP2
namespace Go.SF.C19
open Go.SF
set_option linter.unusedVariables false
set_option linter.unusedSimpArgs false

/-- An outcome that cannot be. -/
theorem drop_never {P : Go.Program} {f : Nat} {vs : List AV} {o : List AObj} {pc : List SB} {x y : TOut} (hy : y.pc = [.app 199 .nil]) (h : TmCall Φ P f vs o pc [x, y]) : TmCall Φ P f vs o pc [x] := by
  intro ρ μ B w xs hd hM hp R hR
  refine h ρ μ B w xs hd hM hp R fun eo heo => ?_
  simp only [List.map_cons, List.map_nil, List.mem_cons, List.not_mem_nil, or_false] at heo
  rcases heo with rfl | rfl
  · exact hR _ (by simp)
  · have nev : ∀ ρ' : Env, ¬ holds Φ ρ' y.pc := fun ρ' hh => by
      rw [hy] at hh
      have := hh (.app 199 .nil) (by simp)
      simp only [evB_app, evA_nil] at this
      rw [aB199] at this
      cases this
    cases hg : get 0 y.t with
    | none => exact fun ρ' _ => nev ρ'
    | some v => exact fun ρ' _ hh => absurd hh (nev ρ')

theorem uses_of {T : Tab} (h : ∀ r ∈ T, 0 ≤ r.getD 4 0 ∧ r.getD 4 0 ≤ 1000) : usesB T = true := by
  refine List.all_eq_true.2 fun r hr => ?_
  rw [Bool.and_eq_true, decide_eq_true_eq, decide_eq_true_eq]; exact h r hr
theorem uses_at {T : Tab} (h : usesB T = true) {r : List Int} (hr : r ∈ T) : 0 ≤ r.getD 4 0 ∧ r.getD 4 0 ≤ 1000 := by
  have := List.all_eq_true.1 h r hr
  rwa [Bool.and_eq_true, decide_eq_true_eq, decide_eq_true_eq] at this
theorem uses_rep (n : Int) : usesB (List.replicate n.toNat Z5) = true := uses_of fun r hr => by
  rw [List.eq_of_mem_replicate hr]; decide
section
variable {T : Tab} (hT : ∀ r ∈ T, okRow K5 r)
theorem uses_off (h : usesB T = true) (o p t w : Int) : usesB (offT T o p t w) = true := by
  unfold offT; split
  · refine uses_of fun r hr => ?_
    rcases mem_mod hr with hr | ⟨s, hs, rfl⟩
    · exact uses_at h hr
    · simp [List.getD]
  · exact h
theorem uses_rev (h : usesB T = true) (id o : Int) : usesB (revT T id o) = true := by
  unfold revT; split
  · refine uses_of fun r hr => ?_
    rcases mem_mod hr with hr | ⟨s, hs, rfl⟩
    · exact uses_at h hr
    · simp [List.getD]
  · exact h
include hT
theorem uses_set (h : usesB T = true) (id x : Int) (h0 : 0 ≤ x) (h1 : x ≤ 1000) : usesB (T.modify id.toNat fun r => r.set (4 : Int).toNat x) = true := by
  refine uses_of fun r hr => ?_
  rcases mem_mod hr with hr | ⟨s, hs, rfl⟩
  · exact uses_at h hr
  · obtain ⟨a, b, c, d, e, rfl⟩ := five (hT s hs)
    show 0 ≤ x ∧ x ≤ 1000
    exact ⟨h0, h1⟩
/-- What Take needs, and what comes of it. -/
theorem tak_now {id g w : Int} (h : usesB T = true) (he : takE T id g w = 0) :
    noneB T id = false ∧ (T.getD id.toNat []).getD 2 0 = g ∧ ¬ (w = 1 ∧ (T.getD id.toNat []).getD 3 0 = 0) ∧ noneB (takT T id g w) id = false ∧
      ((takT T id g w).getD id.toNat []).getD 4 0 = (T.getD id.toNat []).getD 4 0 + 1 ∧ IntKind.i64.wrap ((T.getD id.toNat []).getD 4 0 + 1) = (T.getD id.toNat []).getD 4 0 + 1 ∧ usesB (takT T id g w) = true := by
  cases hn : noneB T id with
  | true => rw [tak_none hn] at he; cases he
  | false =>
    obtain ⟨h0, h1, _⟩ := none_at hT hn
    by_cases hw : (T.getD id.toNat []).getD 2 0 ≠ g ∨ (w = 1 ∧ (T.getD id.toNat []).getD 3 0 = 0)
    · rw [tak_wrong hn hw] at he; cases he
    · by_cases hu : (T.getD id.toNat []).getD 4 0 = 1000
      · rw [tak_full hn hw hu] at he; cases he
      · have hk := (tak_ok hn hw hu).2
        have hb := uses_at h (getD_mem h0 h1)
        have hW : IntKind.i64.wrap ((T.getD id.toNat []).getD 4 0 + 1) = (T.getD id.toNat []).getD 4 0 + 1 := wrap_in (by simp only [kmin]; omega) (by simp only [kmax]; omega)
        have hrow : (takT T id g w).getD id.toNat [] = (T.getD id.toNat []).set (4 : Int).toNat ((T.getD id.toNat []).getD 4 0 + 1) := by
          rw [hk, mod_at h0 h1]; unfold W; rw [hW]
        obtain ⟨a, b, c, d, e, hr⟩ := five (hT _ (getD_mem h0 h1))
        have h4 : ((takT T id g w).getD id.toNat []).getD 4 0 = (T.getD id.toNat []).getD 4 0 + 1 := by rw [hrow, hr]; rfl
        refine ⟨rfl, by omega, by omega, ?_, h4, hW, ?_⟩
        · have hl : id < (takT T id g w).length := by rw [takT_len]; exact h1
          unfold noneB
          have hf : freeB (rowAt (takT T id g w) id) = false := decide_eq_false fun x => by
            have : ((takT T id g w).getD id.toNat []).getD 4 0 = 0 := by
              show (rowAt (takT T id g w) id).getD 4 0 = 0
              rw [x]; rfl
            omega
          rw [hf, Bool.or_false, Bool.or_eq_false_iff, decide_eq_false_iff_not, decide_eq_false_iff_not]
          omega
        · rw [hk]; unfold W; rw [hW]
          exact uses_set hT h _ _ (by omega) (by omega)
theorem uses_tak {id g w : Int} (h : usesB T = true) : usesB (takT T id g w) = true := by
  by_cases he : takE T id g w = 0
  · exact (tak_now hT h he).2.2.2.2.2.2
  · rw [show takT T id g w = T from if_neg he]; exact h
theorem bac_now {id g : Int} (h : usesB T = true) (he : bacE T id g = 0) :
    noneB T id = false ∧ (T.getD id.toNat []).getD 2 0 = g ∧ ((bacT T id g).getD id.toNat []).getD 4 0 = (T.getD id.toNat []).getD 4 0 - 1 ∧ 1 ≤ (T.getD id.toNat []).getD 4 0 ∧
      IntKind.i64.wrap ((T.getD id.toNat []).getD 4 0 - 1) = (T.getD id.toNat []).getD 4 0 - 1 ∧ (noneB (bacT T id g) id = true → (T.getD id.toNat []).getD 4 0 = 1) ∧ usesB (bacT T id g) = true := by
  cases hn : noneB T id with
  | true => rw [bac_none hn] at he; cases he
  | false =>
    obtain ⟨h0, h1, _⟩ := none_at hT hn
    by_cases hw : (T.getD id.toNat []).getD 2 0 ≠ g
    · rw [bac_wrong hn hw] at he; cases he
    · by_cases hu : (T.getD id.toNat []).getD 4 0 = 0
      · rw [bac_zero hn hw hu] at he; cases he
      · have hk := (bac_ok hn hw hu).2
        have hb := uses_at h (getD_mem h0 h1)
        have hW : IntKind.i64.wrap ((T.getD id.toNat []).getD 4 0 - 1) = (T.getD id.toNat []).getD 4 0 - 1 := wrap_in (by simp only [kmin]; omega) (by simp only [kmax]; omega)
        have hrow : (bacT T id g).getD id.toNat [] = (T.getD id.toNat []).set (4 : Int).toNat ((T.getD id.toNat []).getD 4 0 - 1) := by
          rw [hk, mod_at h0 h1]; unfold W; rw [hW]
        obtain ⟨a, b, c, d, e, hr⟩ := five (hT _ (getD_mem h0 h1))
        have h4 : ((bacT T id g).getD id.toNat []).getD 4 0 = (T.getD id.toNat []).getD 4 0 - 1 := by rw [hrow, hr]; rfl
        refine ⟨rfl, by omega, h4, by omega, hW, fun hno => ?_, ?_⟩
        · have hl : id < (bacT T id g).length := by rw [bacT_len]; exact h1
          unfold noneB at hno
          rw [Bool.or_eq_true, Bool.or_eq_true, decide_eq_true_eq, decide_eq_true_eq] at hno
          rcases hno with hno | hno
          · omega
          · have : rowAt (bacT T id g) id = Z5 := of_decide_eq_true hno
            have : ((bacT T id g).getD id.toNat []).getD 4 0 = 0 := by
              show (rowAt (bacT T id g) id).getD 4 0 = 0
              rw [this]; rfl
            omega
        · rw [hk]; unfold W; rw [hW]
          exact uses_set hT h _ _ (by omega) (by omega)
theorem uses_bac {id g : Int} (h : usesB T = true) : usesB (bacT T id g) = true := by
  by_cases he : bacE T id g = 0
  · exact (bac_now hT h he).2.2.2.2.2.2
  · rw [show bacT T id g = T from if_neg he]; exact h
theorem rev_now {id o : Int} (h : usesB T = true) :
    (revE T id o = 0 ↔ noneB T id = false ∧ (T.getD id.toNat []).getD 0 0 = o ∧ (T.getD id.toNat []).getD 4 0 = 0) ∧
      (revE T id o = 0 → noneB (revT T id o) id = true) ∧ (¬ revE T id o = 0 → revT T id o = T) := by
  refine ⟨⟨fun he => ?_, fun ⟨h1, h2, h3⟩ => (rev_ok h1 (by omega) (by omega)).1⟩, fun he => ?_, fun he => if_neg he⟩
  all_goals
    try
      cases hn : noneB T id with
      | true => rw [rev_none hn] at he; cases he
      | false =>
        obtain ⟨h0, h1, _⟩ := none_at hT hn
        by_cases hw : (T.getD id.toNat []).getD 0 0 ≠ o
        · rw [rev_wrong hn hw] at he; cases he
        · by_cases hu : 0 < (T.getD id.toNat []).getD 4 0
          · rw [rev_busy hn hw hu] at he; cases he
          · have hb := uses_at h (getD_mem h0 h1)
            first
              | exact ⟨rfl, by omega, by omega⟩
              | (unfold noneB
                 rw [Bool.or_eq_true]
                 right
                 show freeB (rowAt (revT T id o) id) = true
                 have hrow : (revT T id o).getD id.toNat [] = Z5 := by rw [(rev_ok hn hw hu).2, mod_at h0 h1]
                 show decide (rowAt (revT T id o) id = Z5) = true
                 exact decide_eq_true hrow)
theorem row5 {id : Int} (h0 : 0 ≤ id) (h1 : id < T.length) {x : Int} (hx : x = (T.getD id.toNat []).getD 3 0) :
    [(T.getD id.toNat []).getD 0 0, (T.getD id.toNat []).getD 1 0, (T.getD id.toNat []).getD 2 0, x, (T.getD id.toNat []).getD 4 0] = T.getD id.toNat [] := by
  subst hx
  obtain ⟨a, b, c, d, e, hr⟩ := five (hT _ (getD_mem h0 h1))
  rw [hr]; rfl
theorem bool3 {id : Int} (h0 : 0 ≤ id) (h1 : id < T.length) : (T.getD id.toNat []).getD 3 0 = 0 ∨ (T.getD id.toNat []).getD 3 0 = 1 := by
  have h := hT _ (getD_mem h0 h1)
  obtain ⟨a, b, c, d, e, hr⟩ := five h
  rw [hr] at h ⊢
  exact h.2.2.2.1
end
theorem none_row {T : Tab} {id : Int} (h : noneB T id = true) (h0 : 0 ≤ id) (h1 : id < T.length) : T.getD id.toNat [] = Z5 := by
  unfold noneB at h
  rw [Bool.or_eq_true, Bool.or_eq_true, decide_eq_true_eq, decide_eq_true_eq] at h
  rcases h with h | h
  · omega
  · exact of_decide_eq_true h
theorem take_step {A : Tab} {i : Int} (h : 0 ≤ i) (hi : i < A.length) : A.take (i + 1).toNat = A.take i.toNat ++ [A.getD i.toNat []] := by
  have hlt : i.toNat < A.length := by omega
  rw [show (i + 1).toNat = i.toNat + 1 by omega, List.take_add_one, List.getElem?_eq_getElem hlt]
  simp [List.getD, List.getElem?_eq_getElem hlt]
theorem clr_at {W' : Tab} {g i : Int} (h0 : 0 ≤ i) (h1 : i < W'.length) : (clrG g W').getD i.toNat [] = if ofG g (W'.getD i.toNat []) then Z5 else W'.getD i.toNat [] := by
  have hk : i.toNat < W'.length := by omega
  simp [clrG, List.getD, hk]
theorem none_Z {T : Tab} {i : Int} (h : T.getD i.toNat [] = Z5) : noneB T i = true := by
  unfold noneB
  rw [Bool.or_eq_true]
  right
  exact decide_eq_true h
theorem of_pos {r : List Int} {g : Int} (hg : 1 ≤ g) (h : r.getD 0 0 = g ∨ r.getD 2 0 = g) : ofG g r = true := by
  unfold ofG
  rw [Bool.and_eq_true, Bool.not_eq_true', decide_eq_false_iff_not, Bool.or_eq_true, decide_eq_true_eq, decide_eq_true_eq]
  refine ⟨fun e => ?_, h⟩
  rw [e] at h
  simp at h
  omega
theorem of_not {r : List Int} {g : Int} (h : ¬ r.getD 0 0 = g) (h2 : ¬ r.getD 2 0 = g) : ofG g r = false := by
  rw [Bool.eq_false_iff]
  intro x
  unfold ofG at x
  rw [Bool.and_eq_true, Bool.or_eq_true, decide_eq_true_eq, decide_eq_true_eq] at x
  rcases x.2 with x | x
  · exact h x
  · exact h2 x
theorem of_clr (g : Int) (T : Tab) : idxT (ofG g) 0 (clrG g T) = [] := by
  refine idx_none fun r hr => ?_
  obtain ⟨s, hs, rfl⟩ := List.mem_map.1 hr
  show ofG g (if ofG g s then Z5 else s) = false
  by_cases h : ofG g s = true
  · rw [if_pos h]; simp [ofG]
  · rw [if_neg h]; simpa using h
end Go.SF.C19
