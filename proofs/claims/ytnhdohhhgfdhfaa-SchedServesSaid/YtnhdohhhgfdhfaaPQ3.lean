/- Chapter 17: lemmas in plain Lean on the longest queue, places, Even. -/
import Derived.Test.YtnhdohhhgfdhfaaPQ2
namespace Go.SF.C17
open Go.SF
set_option linter.unusedVariables false
set_option linter.unusedSimpArgs false
variable {T M : Tab} {c id rm i b s x : Int}

theorem rowT_get (T : Tab) (c : Int) (n : Nat) : ((rowT T c).getD n []).getD 0 0 = (rowL T c).getD n 0 := by
  unfold rowT rowL
  generalize T.getD c.toNat [] = r
  simp only [List.getD_eq_getElem?_getD, List.getElem?_map]
  cases r[n]? <;> rfl
theorem best_step (h0 : 0 ≤ c) (h1 : c < T.length) : bestF s T c b = bestF s T (c + 1) (if betB s T c b then c else b) := by
  unfold bestF
  rw [show T.length - c.toNat = (T.length - (c + 1).toNat) + 1 by omega]; rfl
theorem best_end (h1 : ¬ c < T.length) : bestF s T c b = b := by
  unfold bestF
  rw [show T.length - c.toNat = 0 by omega]; rfl
theorem long_yes (h0 : 0 ≤ c) (h1 : c < T.length) (h : lenR T b < lenR T c) : bestF 1 T c b = bestF 1 T (c + 1) c := by
  rw [best_step h0 h1, betB, if_pos rfl, decide_eq_true h]; rfl
theorem long_no (h0 : 0 ≤ c) (h1 : c < T.length) (h : ¬ lenR T b < lenR T c) : bestF 1 T c b = bestF 1 T (c + 1) b := by
  rw [best_step h0 h1, betB, if_pos rfl, decide_eq_false h]; rfl
theorem short_yes (h0 : 0 ≤ c) (h1 : c < T.length) (h : lenR T c < lenR T b) : bestF 0 T c b = bestF 0 T (c + 1) c := by
  rw [best_step h0 h1]; unfold betB; simp [h]
theorem short_no (h0 : 0 ≤ c) (h1 : c < T.length) (h : ¬ lenR T c < lenR T b) : bestF 0 T c b = bestF 0 T (c + 1) b := by
  rw [best_step h0 h1]; unfold betB; simp [h]
theorem long_max0 (T : Tab) : ∀ (n : Nat) (c b : Int), T.length - c.toNat = n → 0 ≤ c → 0 ≤ b → b < T.length →
    0 ≤ bestF 1 T c b ∧ bestF 1 T c b < T.length ∧ lenR T b ≤ lenR T (bestF 1 T c b) ∧ ∀ k, c ≤ k → k < T.length → lenR T k ≤ lenR T (bestF 1 T c b)
  | 0, c, b, hn, h0, hb, hb1 => by rw [best_end (by omega)]; exact ⟨hb, hb1, Int.le_refl _, fun k _ _ => by omega⟩
  | n + 1, c, b, hn, h0, hb, hb1 => by
    by_cases h : lenR T b < lenR T c
    · rw [long_yes h0 (by omega) h]
      obtain ⟨a1, a2, a3, a4⟩ := long_max0 T n (c + 1) c (by omega) (by omega) h0 (by omega)
      refine ⟨a1, a2, by omega, fun k h2 h3 => ?_⟩
      rcases Int.lt_or_eq_of_le h2 with h4 | h4
      · exact a4 k (by omega) h3
      · subst h4; exact a3
    · rw [long_no h0 (by omega) h]
      obtain ⟨a1, a2, a3, a4⟩ := long_max0 T n (c + 1) b (by omega) (by omega) hb hb1
      refine ⟨a1, a2, a3, fun k h2 h3 => ?_⟩
      rcases Int.lt_or_eq_of_le h2 with h4 | h4
      · exact a4 k (by omega) h3
      · subst h4; omega
theorem short_min0 (T : Tab) : ∀ (n : Nat) (c b : Int), T.length - c.toNat = n → 0 ≤ c → 0 ≤ b → b < T.length →
    0 ≤ bestF 0 T c b ∧ bestF 0 T c b < T.length ∧ lenR T (bestF 0 T c b) ≤ lenR T b ∧ ∀ k, c ≤ k → k < T.length → lenR T (bestF 0 T c b) ≤ lenR T k
  | 0, c, b, hn, h0, hb, hb1 => by rw [best_end (by omega)]; exact ⟨hb, hb1, Int.le_refl _, fun k _ _ => by omega⟩
  | n + 1, c, b, hn, h0, hb, hb1 => by
    by_cases h : lenR T c < lenR T b
    · rw [short_yes h0 (by omega) h]
      obtain ⟨a1, a2, a3, a4⟩ := short_min0 T n (c + 1) c (by omega) (by omega) h0 (by omega)
      refine ⟨a1, a2, by omega, fun k h2 h3 => ?_⟩
      rcases Int.lt_or_eq_of_le h2 with h4 | h4
      · exact a4 k (by omega) h3
      · subst h4; exact a3
    · rw [short_no h0 (by omega) h]
      obtain ⟨a1, a2, a3, a4⟩ := short_min0 T n (c + 1) b (by omega) (by omega) hb hb1
      refine ⟨a1, a2, a3, fun k h2 h3 => ?_⟩
      rcases Int.lt_or_eq_of_le h2 with h4 | h4
      · exact a4 k (by omega) h3
      · subst h4; omega
theorem long_in (h : 1 ≤ (T.length : Int)) : 0 ≤ (bestF 1 T 0 0) ∧ (bestF 1 T 0 0) < T.length := ⟨(long_max0 T _ 0 0 rfl (by omega) (by omega) (by omega)).1, (long_max0 T _ 0 0 rfl (by omega) (by omega) (by omega)).2.1⟩
theorem short_in (h : 1 ≤ (T.length : Int)) : 0 ≤ (bestF 0 T 0 0) ∧ (bestF 0 T 0 0) < T.length := ⟨(short_min0 T _ 0 0 rfl (by omega) (by omega) (by omega)).1, (short_min0 T _ 0 0 rfl (by omega) (by omega) (by omega)).2.1⟩
theorem long_max (h0 : 0 ≤ c) (h1 : c < T.length) : lenR T c ≤ lenR T (bestF 1 T 0 0) := (long_max0 T _ 0 0 rfl (by omega) (by omega) (by omega)).2.2.2 c h0 h1
theorem short_min (h0 : 0 ≤ c) (h1 : c < T.length) : lenR T (bestF 0 T 0 0) ≤ lenR T c := (short_min0 T _ 0 0 rfl (by omega) (by omega) (by omega)).2.2.2 c h0 h1

theorem push_no {k : Int} (h : pushE T c id rm = k) (hk : k ≠ 0) : pushT T c id rm = T := if_neg (by omega)
theorem push_range (h : c < 0 ∨ (T.length : Int) ≤ c) : pushE T c id rm = 2 := if_pos h
theorem push_arg (h0 : 0 ≤ c) (h1 : c < T.length) (h : id < 0) : pushE T c id rm = 1 := by
  rw [pushE, if_neg (by omega), if_pos h]
theorem push_twice (h0 : 0 ≤ c) (h1 : c < T.length) (h : ¬ id < 0) (hk : hasB T id = true) : pushE T c id rm = 5 := by
  rw [pushE, if_neg (by omega), if_neg h, if_pos hk]
theorem push_full (h0 : 0 ≤ c) (h1 : c < T.length) (h : ¬ id < 0) (hk : hasB T id = false) (hr : lenR T c = rm) : pushE T c id rm = 3 := by
  rw [pushE, if_neg (by omega), if_neg h, if_neg (by rw [hk]; simp), if_pos hr]
theorem push_ok (h0 : 0 ≤ c) (h1 : c < T.length) (h : ¬ id < 0) (hk : hasB T id = false) (hr : ¬ lenR T c = rm) : pushE T c id rm = 0 ∧ pushT T c id rm = layT T c id := by
  have e : pushE T c id rm = 0 := by rw [pushE, if_neg (by omega), if_neg h, if_neg (by rw [hk]; simp), if_neg hr]
  exact ⟨e, if_pos e⟩
theorem has_of (h : invB T M rm = true) (hM : M.Pairwise fun a b => hdK a < hdK b) (hf : 0 < ((findK M id).length : Int)) : hasB T id = true := by
  rw [has_find h hM]; exact decide_eq_true (by omega)
theorem has_not (h : invB T M rm = true) (hM : M.Pairwise fun a b => hdK a < hdK b) (hf : ¬ 0 < ((findK M id).length : Int)) : hasB T id = false := by
  rw [has_find h hM]; exact decide_eq_false (by omega)
/-- Where. -/
theorem atG_stop (h0 : 0 ≤ i) (h1 : i < lenR T c) (h : (rowL T c).getD i.toNat 0 = id) : atG T c id i = i := by
  unfold atG
  unfold lenR at h1
  rw [List.drop_eq_getElem_cons (by omega)]
  rw [List.getD_eq_getElem?_getD, List.getElem?_eq_getElem (by omega)] at h
  simp only [Option.getD_some] at h
  rw [List.idxOf_cons, h]; simp
theorem atG_step (h0 : 0 ≤ i) (h1 : i < lenR T c) (h : ¬ (rowL T c).getD i.toNat 0 = id) : atG T c id i = atG T c id (i + 1) := by
  unfold atG
  unfold lenR at h1
  rw [List.drop_eq_getElem_cons (by omega)]
  rw [List.getD_eq_getElem?_getD, List.getElem?_eq_getElem (by omega)] at h
  simp only [Option.getD_some] at h
  rw [List.idxOf_cons, show (i + 1).toNat = i.toNat + 1 by omega, show ((rowL T c)[i.toNat] == id) = false by simpa using h, cond_false]
  omega
theorem atG_ge : i ≤ atG T c id i := by unfold atG; omega
theorem atG0 : atG T (cpuF T id) id 0 = atF T id := by simp [atG, atF]
theorem where_has (h : invB T M rm = true) (hM : M.Pairwise fun a b => hdK a < hdK b) (hk : hasB T id = true) : ((findK M id).getD (0 : Int).toNat []).getD 1 0 = cpuF T id := by
  rw [find_has h hM hk]; rfl
/-- Pop. -/
theorem any_not (h : 1 ≤ (T.length : Int)) (hl : lenR T (bestF 1 T 0 0) = 0) : anyB T = false := by
  cases hb : anyB T
  · rfl
  · obtain ⟨r, hr, hne⟩ := List.any_eq_true.1 hb
    obtain ⟨n, hn, rfl⟩ := List.getElem_of_mem hr
    have := long_max (T := T) (c := n) (by omega) (by omega)
    rw [hl] at this
    have e : lenR T n = (T[n].length : Int) := by rw [lenR, rowL, Int.toNat_natCast, List.getD_eq_getElem?_getD, List.getElem?_eq_getElem hn]; rfl
    rw [e] at this
    have : T[n] = [] := List.length_eq_zero_iff.1 (by omega)
    rw [this] at hne; simp at hne
theorem any_of (h0 : 0 ≤ c) (h1 : c < T.length) (hl : 0 < lenR T c) : anyB T = true := by
  refine List.any_eq_true.2 ⟨rowL T c, rowL_mem h0 h1, ?_⟩
  unfold lenR at hl
  cases hr : rowL T c
  · rw [hr] at hl; simp at hl
  · rfl
theorem pop_own (hl : 0 < lenR T c) : popF T c = c ∧ popT T c = cutT T c 0 ∧ popX T c = (rowL T c).getD (0 : Int).toNat 0 := by
  simp [popT, popX, popF, popI, hl]
theorem pop_long (hl : ¬ 0 < lenR T c) : popF T c = (bestF 1 T 0 0) ∧ popT T c = cutT T (bestF 1 T 0 0) (lenR T (bestF 1 T 0 0) - 1) ∧ popX T c = (rowL T (bestF 1 T 0 0)).getD (lenR T (bestF 1 T 0 0) - 1).toNat 0 := by
  simp [popT, popX, popF, popI, hl]
theorem drop_has (h : hasB T id = true) : dropT T id = cutT T (cpuF T id) (atF T id) := if_pos h
theorem drop_not (h : hasB T id = false) : dropT T id = T := if_neg (by rw [h]; simp)
/-- Even. -/
theorem sq_app (A B : Tab) : sq (A ++ B) = sq A + sq B := by simp [sq]
theorem sq_cons (r : List Int) (B : Tab) : sq (r :: B) = (r.length : Int) * r.length + sq B := by simp [sq]
theorem sq_set {r' : List Int} (h0 : 0 ≤ c) (h1 : c < T.length) : sq (T.set c.toNat r') = sq T - lenR T c * lenR T c + (r'.length : Int) * r'.length := by
  obtain ⟨A, B, e, hA⟩ := split h0 h1
  have hl : lenR T c = ((rowL T c).length : Int) := rfl
  generalize rowL T c = r at *
  rw [hl, e, set_mid hA, sq_app, sq_app, sq_cons, sq_cons]; omega
theorem row_set {r' : List Int} {k : Int} (h0 : 0 ≤ c) (h1 : c < T.length) (hk : 0 ≤ k) : rowL (T.set c.toNat r') k = if k = c then r' else rowL T k := by
  unfold rowL
  rw [List.getD_eq_getElem?_getD, List.getElem?_set]
  by_cases e : k = c
  · subst e; rw [if_pos rfl, if_pos rfl, if_pos (by omega)]; rfl
  · rw [if_neg e, if_neg (by omega), List.getD_eq_getElem?_getD]
theorem row_cut {k : Int} (h0 : 0 ≤ c) (h1 : c < T.length) (hk : 0 ≤ k) : rowL (cutT T c i) k = if k = c then (rowL T c).eraseIdx i.toNat else rowL T k := row_set h0 h1 hk
theorem row_lay {k : Int} (h0 : 0 ≤ c) (h1 : c < T.length) (hk : 0 ≤ k) : rowL (layT T c id) k = if k = c then rowL T c ++ [id] else rowL T k := row_set h0 h1 hk
theorem len_cut {k : Int} (h0 : 0 ≤ c) (h1 : c < T.length) (hk : 0 ≤ k) (hi : 0 ≤ i) (hl : i < lenR T c) : lenR (cutT T c i) k = if k = c then lenR T c - 1 else lenR T k := by
  unfold lenR at hl ⊢
  rw [row_cut h0 h1 hk]
  split
  · rw [List.length_eraseIdx, if_pos (by omega)]; omega
  · rfl
theorem len_lay {k : Int} (h0 : 0 ≤ c) (h1 : c < T.length) (hk : 0 ≤ k) : lenR (layT T c id) k = if k = c then lenR T c + 1 else lenR T k := by
  unfold lenR
  rw [row_lay h0 h1 hk]
  split
  · simp
  · rfl
theorem sq_pos (T : Tab) : 0 ≤ sq T := by
  induction T with
  | nil => simp [sq]
  | cons r T ih => rw [sq_cons]; have := Int.mul_nonneg (Int.natCast_nonneg r.length) (Int.natCast_nonneg r.length); omega
theorem sq_le : ∀ {T : Tab}, (∀ r ∈ T, (r.length : Int) ≤ 64) → sq T ≤ 4096 * T.length
  | [], _ => by simp [sq]
  | r :: T, h => by
    rw [sq_cons]
    have h1 := sq_le fun s hs => h s (List.mem_cons_of_mem _ hs)
    have h2 : (r.length : Int) * r.length ≤ 64 * 64 := Int.mul_le_mul (h r (List.mem_cons_self ..)) (h r (List.mem_cons_self ..)) (by omega) (by omega)
    simp; omega
/-- One that goes: from the longest to the shortest. -/
abbrev lastX (T : Tab) : Int := (rowL T (bestF 1 T 0 0)).getD (lenR T (bestF 1 T 0 0) - 1).toNat 0
theorem ne_of_gap (h : ¬ lenR T (bestF 1 T 0 0) < lenR T (bestF 0 T 0 0) + 2) : ¬ (bestF 0 T 0 0) = (bestF 1 T 0 0) := fun e => by rw [e] at h; omega
theorem sq_step (h : 1 ≤ (T.length : Int)) (hg : ¬ lenR T (bestF 1 T 0 0) < lenR T (bestF 0 T 0 0) + 2) : sq (evStep T) < sq T := by
  obtain ⟨l0, l1⟩ := long_in h
  obtain ⟨s0, s1⟩ := short_in h
  have hne := ne_of_gap hg
  have hp := lenR_pos T (bestF 0 T 0 0)
  have hc : (cutT T (bestF 1 T 0 0) (lenR T (bestF 1 T 0 0) - 1)).length = T.length := cutT_len ..
  have e1 : sq (cutT T (bestF 1 T 0 0) (lenR T (bestF 1 T 0 0) - 1)) = sq T - lenR T (bestF 1 T 0 0) * lenR T (bestF 1 T 0 0) + (lenR T (bestF 1 T 0 0) - 1) * (lenR T (bestF 1 T 0 0) - 1) := by
    unfold cutT
    rw [sq_set l0 l1]
    have : (((rowL T (bestF 1 T 0 0)).eraseIdx (lenR T (bestF 1 T 0 0) - 1).toNat).length : Int) = lenR T (bestF 1 T 0 0) - 1 := by
      rw [List.length_eraseIdx, if_pos (by unfold lenR at *; omega)]; unfold lenR at *; omega
    rw [this]
  have e2 : lenR (cutT T (bestF 1 T 0 0) (lenR T (bestF 1 T 0 0) - 1)) (bestF 0 T 0 0) = lenR T (bestF 0 T 0 0) := by
    rw [len_cut l0 l1 s0 (by omega) (by omega), if_neg hne]
  have e3 : sq (evStep T) = sq (cutT T (bestF 1 T 0 0) (lenR T (bestF 1 T 0 0) - 1)) - lenR T (bestF 0 T 0 0) * lenR T (bestF 0 T 0 0) + (lenR T (bestF 0 T 0 0) + 1) * (lenR T (bestF 0 T 0 0) + 1) := by
    unfold evStep layT
    rw [sq_set s0 (by rw [hc]; exact s1), e2]
    have : ((rowL (cutT T (bestF 1 T 0 0) (lenR T (bestF 1 T 0 0) - 1)) (bestF 0 T 0 0) ++ [lastX T]).length : Int) = lenR T (bestF 0 T 0 0) + 1 := by rw [← e2]; simp [lenR]
    rw [this]
  rw [e3, e1]
  generalize lenR T (bestF 1 T 0 0) = L at *
  generalize lenR T (bestF 0 T 0 0) = S at *
  have : (L - 1) * (L - 1) = L * L - 2 * L + 1 := by rw [Int.sub_mul, Int.mul_sub]; omega
  have : (S + 1) * (S + 1) = S * S + 2 * S + 1 := by rw [Int.add_mul, Int.mul_add]; omega
  omega
theorem evStep_len (T : Tab) : (evStep T).length = T.length := by rw [evStep, layT_len, cutT_len]
theorem evGo_fuel : ∀ (n m : Nat) (T : Tab), 1 ≤ (T.length : Int) → sq T ≤ n → sq T ≤ m → evGo n T = evGo m T
  | 0, 0, T, _, _, _ => rfl
  | n + 1, 0, T, hT, h1, h2 => by
    rw [evGo, evGo]
    cases hb : evOK T
    · have := sq_step hT (of_decide_eq_false hb); have := sq_pos (evStep T); omega
    · simp
  | 0, m + 1, T, hT, h1, h2 => by
    rw [evGo, evGo]
    cases hb : evOK T
    · have := sq_step hT (of_decide_eq_false hb); have := sq_pos (evStep T); omega
    · simp
  | n + 1, m + 1, T, hT, h1, h2 => by
    rw [evGo, evGo]
    cases hb : evOK T
    · have := sq_step hT (of_decide_eq_false hb)
      rw [evGo_fuel n m (evStep T) (by rw [evStep_len]; exact hT) (by omega) (by omega)]
    · simp
theorem even_end (hg : lenR T (bestF 1 T 0 0) < lenR T (bestF 0 T 0 0) + 2) : evenN T = 0 ∧ evenT T = T := by
  have hb : evOK T = true := decide_eq_true hg
  unfold evenN evenT
  cases (sq T).toNat <;> simp [evGo, hb]
theorem even_step (h : 1 ≤ (T.length : Int)) (hg : ¬ lenR T (bestF 1 T 0 0) < lenR T (bestF 0 T 0 0) + 2) : evenN T = evenN (evStep T) + 1 ∧ evenT T = evenT (evStep T) := by
  have hb : evOK T = false := decide_eq_false hg
  have h1 := sq_step h hg
  have h2 := sq_pos (evStep T)
  have e : evGo (sq T).toNat T = ((evGo (sq (evStep T)).toNat (evStep T)).1 + 1, (evGo (sq (evStep T)).toNat (evStep T)).2) := by
    obtain ⟨n, hn⟩ : ∃ n, (sq T).toNat = n + 1 := ⟨(sq T).toNat - 1, by omega⟩
    rw [hn, evGo, if_neg (by rw [hb]; simp), evGo_fuel n (sq (evStep T)).toNat (evStep T) (by rw [evStep_len]; exact h) (by omega) (by omega)]
  unfold evenN evenT
  rw [e]; exact ⟨rfl, rfl⟩
theorem even_len (T : Tab) : ∀ n, (evGo n T).2.length = T.length := by
  intro n
  induction n generalizing T with
  | zero => rfl
  | succ n ih => rw [evGo]; split; rfl; rw [ih, evStep_len]
theorem evenT_len (T : Tab) : (evenT T).length = T.length := even_len T _
theorem inv_step (h : invB T M rm = true) (hT : 1 ≤ (T.length : Int)) (hg : ¬ lenR T (bestF 1 T 0 0) < lenR T (bestF 0 T 0 0) + 2) :
    invB (evStep T) (putK (delK M (lastX T)) [lastX T, (bestF 0 T 0 0)]) rm = true := by
  obtain ⟨l0, l1⟩ := long_in hT
  obtain ⟨s0, s1⟩ := short_in hT
  have hne := ne_of_gap hg
  have hp := lenR_pos T (bestF 0 T 0 0)
  obtain ⟨i1, i2, _⟩ := inv_cut h l0 l1 (i := lenR T (bestF 1 T 0 0) - 1) (by omega) (by omega)
  refine inv_lay i1 i2 s0 (by rw [cutT_len]; exact s1) ?_
  rw [len_cut l0 l1 s0 (by omega) (by omega), if_neg hne]
  have := inv_row h l0 l1
  omega
theorem inv_new {n : Int} (hr : 1 ≤ rm) : invB (List.replicate n.toNat []) [] rm = true := by
  have h : ∀ (n : Nat) (c : Int), pairs c (List.replicate n []) = [] := by
    intro n
    induction n with
    | zero => intro c; rfl
    | succ n ih => intro c; rw [List.replicate_succ, pairs, ih]; rfl
  refine inv_iff.2 ⟨fun r hr' => ?_, ?_, ?_⟩
  · rw [(List.mem_replicate.1 hr').2]; simp; omega
  · simp
  · rw [h]
theorem inv_sq (h : invB T M rm = true) (h8 : (T.length : Int) ≤ 8) (hr : rm ≤ 64) : sq T ≤ 100000 := by
  have := sq_le (T := T) fun r hr' => by have := (inv_iff.1 h).1 r hr'; omega
  omega
end Go.SF.C17
