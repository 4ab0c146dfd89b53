/- What holds of all states (for SchedOne): rows that can be, who runs, who waits; in plain Lean. What an event makes of one, case by case; in plain Lean. What holds of all states is kept, whatever happens; in plain Lean. What the obligations of the package sched ask, whatever happens; in plain Lean. Time goes on: one CPU behind the other; one timer behind the other; in plain Lean. The law that none is in two places: who was seen where; in plain Lean. -/
import Derived.Test.YtnhdohhhgfdhfaaPV
import Derived.Test.YtnhdohhhgfdhfaaPQ4
namespace Go.SF.C21
open Go.SF Go.SF.C17
set_option linter.unusedVariables false

/-- A row that can be, at place i. -/
structure Row (O R : Tab) (i : Int) : Prop where
  c : cel O i 8 = 0
  lo : 0 ≤ cel O i 0
  hi : cel O i 0 ≤ 5
  runs : cel O i 0 = 2 → 0 ≤ cel O i 1 ∧ cel O i 1 < R.length ∧ cel R (cel O i 1) 0 = i
  rest : ¬ cel O i 0 = 2 → cel O i 1 = -1 ∧ cel O i 2 = 0
  held : ¬ cel O i 0 = 2 → ¬ cel O i 0 = 3 → cel O i 3 = 0
structure Inv (O A R : Tab) : Prop where
  row : ∀ i : Int, 0 ≤ i → i < O.length → Row O R i
  cpu : ∀ c : Int, 0 ≤ c → c < R.length → cel R c 0 = -1 ∨ (0 ≤ cel R c 0 ∧ cel R c 0 < O.length ∧ cel O (cel R c 0) 0 = 2 ∧ cel O (cel R c 0) 1 = c)
  ids : ∀ x, x ∈ A.flatten ↔ (0 ≤ x ∧ x < O.length ∧ cel O x 0 = 1)
/-- One row is another one; the queues and who runs follow. -/
theorem inv_put {O O' A A' R R' : Tab} {i : Int} (h : Inv O A R) (hl : O'.length = O.length) (hr : R'.length = R.length) (h0 : 0 ≤ i) (h1 : i < O.length)
    (old : ∀ j : Int, 0 ≤ j → ¬ j = i → ∀ q, cel O' j q = cel O j q)
    (new : Row O' R' i)
    (hA : ∀ x, x ∈ A'.flatten ↔ ((¬ x = i ∧ x ∈ A.flatten) ∨ (x = i ∧ cel O' i 0 = 1)))
    (hR : ∀ c : Int, 0 ≤ c → c < R.length → ((cel R c 0 = -1 ∨ cel R c 0 = i) ∧ cel R' c 0 = i ∧ cel O' i 0 = 2 ∧ cel O' i 1 = c) ∨ (¬ cel R c 0 = i ∧ ¬ cel R' c 0 = i ∧ cel R' c 0 = cel R c 0) ∨ (cel R c 0 = i ∧ cel R' c 0 = -1)) : Inv O' A' R' := by
  refine ⟨fun j j0 j1 => ?_, fun c c0 c1 => ?_, fun x => ?_⟩
  · by_cases e : j = i
    · subst e; exact new
    · have q := old j j0 e
      have g := h.row j j0 (by omega)
      refine ⟨by rw [q]; exact g.c, by rw [q]; exact g.lo, by rw [q]; exact g.hi, ?_, by rw [q, q, q]; exact g.rest, by rw [q, q]; exact g.held⟩
      rw [q 0, q 1]
      intro s
      obtain ⟨g1, g2, g3⟩ := g.runs s
      refine ⟨g1, by omega, ?_⟩
      rcases hR _ g1 g2 with ⟨z, a, b, d⟩ | ⟨a, b, d⟩ | ⟨a, b⟩
      · rw [g3] at z
        rcases z with z | z
        · omega
        · exact absurd z e
      · rw [d]; exact g3
      · exact absurd (g3.symm.trans a) e
  · rw [hr] at c1
    rcases hR c c0 c1 with ⟨_, a, b, d⟩ | ⟨a, b, d⟩ | ⟨a, b⟩
    · right; rw [a]; exact ⟨h0, by omega, b, d⟩
    · rw [d]
      rcases h.cpu c c0 c1 with s | ⟨s1, s2, s3, s4⟩
      · exact .inl s
      · right
        rw [old _ s1 a, old _ s1 a]
        exact ⟨s1, by omega, s3, s4⟩
    · exact .inl b
  · rw [hA, h.ids, hl]
    by_cases e : x = i
    · subst e; simp [h0, h1]
    · constructor
      · rintro (⟨_, a, b, d⟩ | ⟨a, _⟩)
        · exact ⟨a, b, by rw [old x a e]; exact d⟩
        · exact absurd a e
      · rintro ⟨a, b, d⟩
        exact .inl ⟨e, a, b, by rw [← old x a e]; exact d⟩
end Go.SF.C21
namespace Go.SF.C21
open Go.SF Go.SF.C17
set_option linter.unusedVariables false

section
variable {s on w h ev cpu : Int}
theorem nx_stop (h1 : ev = 8) (h2 : ¬ s = 5) : nx4 s on w h ev cpu = some [5, -1, 0, 0] := by unfold nx4; rw [if_pos h1, if_neg h2]
theorem nx_wakeR (h1 : ev = 5) (h2 : s = 2) : nx4 s on w h ev cpu = some [2, on, 1, h] := by subst h1; subst h2; rfl
theorem nx_pauseR (h1 : ev = 6) (h2 : s = 2) : nx4 s on w h ev cpu = some [2, on, w, 1] := by subst h1; subst h2; rfl
theorem nx_resR (h1 : ev = 7) (h2 : s = 2) : nx4 s on w h ev cpu = some [2, on, w, 0] := by subst h1; subst h2; rfl
theorem nx_block (h1 : ev = 4) (h2 : s = 2) (h3 : w = 0) : nx4 s on w h ev cpu = some [3, -1, 0, h] := by subst h1; subst h2; subst h3; rfl
theorem nx_off (h2 : s = 2) (h1 : ev = 3 ∨ ev = 4 ∧ ¬ w = 0) : nx4 s on w h ev cpu = some [if h = 1 then 4 else 1, -1, 0, 0] := by
  subst h2
  rcases h1 with h1 | ⟨h1, h3⟩
  · subst h1; rfl
  · subst h1; unfold nx4; simp [h3]
theorem nx_ready (h1 : s = 0 ∧ ev = 1 ∨ s = 4 ∧ ev = 7) : nx4 s on w h ev cpu = some [1, -1, 0, h] := by
  rcases h1 with ⟨h1, h2⟩ | ⟨h1, h2⟩ <;> (subst h1; subst h2; rfl)
theorem nx_pick (h1 : s = 1) (h2 : ev = 2) : nx4 s on w h ev cpu = some [2, cpu, w, h] := by subst h1; subst h2; rfl
theorem nx_wakeB (h1 : s = 3) (h2 : ev = 5) : nx4 s on w h ev cpu = some [if h = 1 then 4 else 1, -1, 0, 0] := by subst h1; subst h2; rfl
theorem nx_pauseB (h1 : s = 3) (h2 : ev = 6) : nx4 s on w h ev cpu = some [3, on, w, 1] := by subst h1; subst h2; rfl
theorem nx_resB (h1 : s = 3) (h2 : ev = 7) : nx4 s on w h ev cpu = some [3, on, w, 0] := by subst h1; subst h2; rfl
theorem nx_pauseY (h1 : s = 1) (h2 : ev = 6) : nx4 s on w h ev cpu = some [4, -1, 0, h] := by subst h1; subst h2; rfl
theorem nx_same (h1 : s = 1 ∧ ev = 5 ∨ s = 4 ∧ ev = 5 ∨ s = 4 ∧ ev = 6 ∨ s = 1 ∧ ev = 7) : nx4 s on w h ev cpu = some [s, on, w, h] := by
  rcases h1 with ⟨h1, h2⟩ | ⟨h1, h2⟩ | ⟨h1, h2⟩ | ⟨h1, h2⟩ <;> (subst h1; subst h2; rfl)
theorem nx_no (h1 : (s = 2 ∧ (ev < 3 ∨ 8 < ev)) ∨ (¬ s = 2 ∧ ¬ (ev = 8 ∧ ¬ s = 5) ∧ ¬ (s = 0 ∧ ev = 1 ∨ s = 4 ∧ ev = 7) ∧ ¬ (s = 1 ∧ ev = 2) ∧ ¬ (s = 3 ∧ 5 ≤ ev ∧ ev ≤ 7) ∧ ¬ (s = 1 ∧ 5 ≤ ev ∧ ev ≤ 7) ∧ ¬ (s = 4 ∧ 5 ≤ ev ∧ ev ≤ 7))) : nx4 s on w h ev cpu = none := by
  unfold nx4
  repeat' split
  all_goals first | rfl | (exfalso; omega)
/-- What is told of what comes of one. -/
structure NxV (O : Tab) (i ev cpu s on w h : Int) : Prop where
  b : nxB O i ev cpu = true
  c0 : ((nxT O i ev cpu).getD (Int.toNat 0) []).getD 0 0 = s
  c1 : ((nxT O i ev cpu).getD (Int.toNat 0) []).getD 1 0 = on
  c2 : ((nxT O i ev cpu).getD (Int.toNat 0) []).getD 2 0 = w
  c3 : ((nxT O i ev cpu).getD (Int.toNat 0) []).getD 3 0 = h
end
theorem nxv {O : Tab} {i ev cpu s on w h : Int} (e : nxO O i ev cpu = some [s, on, w, h]) : NxV O i ev cpu s on w h := by
  constructor <;> simp [nxB, nxT, e]
theorem nxv_no {O : Tab} {i ev cpu : Int} (e : nxO O i ev cpu = none) : nxB O i ev cpu = false := by simp [nxB, e]
theorem right_iff {O : Tab} {i : Int} : right8 O i = true ↔ 0 ≤ cel O i 0 ∧ cel O i 0 ≤ 5 ∧ cel O i 8 = 0 ∧ (cel O i 2 = 0 ∨ cel O i 2 = 1) ∧ (cel O i 3 = 0 ∨ cel O i 3 = 1) ∧
    (cel O i 0 = 2 → 0 ≤ cel O i 1 ∧ cel O i 1 ≤ 7) ∧ (¬ cel O i 0 = 2 → cel O i 1 = -1 ∧ cel O i 2 = 0) ∧ (¬ cel O i 0 = 2 → ¬ cel O i 0 = 3 → cel O i 3 = 0) := by
  unfold right8; rw [decide_eq_true_eq]

/-! ### leave, enter, step -/
section
variable {O A B R : Tab} {i ev cpu home : Int}
theorem lv_2 (e : cel O i 0 = 2) : lvA O A i = A ∧ lvR O R i = setC R (cel O i 1) (-1) := ⟨if_neg (by omega), if_pos e⟩
theorem lv_1 (e : cel O i 0 = 1) : lvA O A i = dropT A i ∧ lvR O R i = R := ⟨if_pos e, if_neg (by omega)⟩
theorem lv_0 (e : ¬ cel O i 0 = 1) (e' : ¬ cel O i 0 = 2) : lvA O A i = A ∧ lvR O R i = R := ⟨if_neg e, if_neg e'⟩
theorem en_2 (e : cel O i 0 = 2) : enA O A home i = A ∧ enR O R i = setC R (cel O i 1) i ∧ enB O B i = B := ⟨if_neg (by omega), if_pos e, if_neg (by omega)⟩
theorem en_1 (e : cel O i 0 = 1) : enA O A home i = pushT A home i 64 ∧ enR O R i = R ∧ enB O B i = B := ⟨if_pos e, if_neg (by omega), if_neg (by omega)⟩
theorem en_5 (e : cel O i 0 = 5) : enA O A home i = A ∧ enR O R i = R ∧ enB O B i = delK B i := ⟨if_neg (by omega), if_neg (by omega), if_pos e⟩
theorem en_0 (e : ¬ cel O i 0 = 1) (e' : ¬ cel O i 0 = 2) (e'' : ¬ cel O i 0 = 5) : enA O A home i = A ∧ enR O R i = R ∧ enB O B i = B := ⟨if_neg e, if_neg e', if_neg e''⟩
theorem del_len (B : Tab) (i : Int) : ((delK B i).length : Int) ≤ B.length := by
  have := List.length_filter_le (fun r : List Int => !decide (hdK r = i)) B
  unfold delK; omega
theorem setC_len (R : Tab) (c x : Int) : (setC R c x).length = R.length := by unfold setC; rw [List.length_modify]

theorem modify_at {O : Tab} {n : Nat} {f g : List Int → List Int} (h : ∀ r, O[n]? = some r → f r = g r) : O.modify n f = O.modify n g := by
  apply List.ext_getElem?
  intro m
  rw [List.getElem?_modify, List.getElem?_modify]
  by_cases e : n = m
  · subst e
    cases hr : O[n]? with
    | none => rfl
    | some r => simp [h r hr]
  · simp [e]
theorem row_is {O : Tab} (hO : ∀ row ∈ O, row.length = 10) {n : Nat} {r : List Int} (h : O[n]? = some r) : ∃ a0 a1 a2 a3 a4 a5 a6 a7 a8 a9, r = [a0, a1, a2, a3, a4, a5, a6, a7, a8, a9] := by
  have := hO r (List.mem_of_getElem? h)
  match r, this with
  | [a0, a1, a2, a3, a4, a5, a6, a7, a8, a9], _ => exact ⟨_, _, _, _, _, _, _, _, _, _, rfl⟩
/-- Nine cells laid, of which five are as they were. -/
theorem chain9 {O : Tab} (hO : ∀ row ∈ O, row.length = 10) {i : Int} (a b c d : Int) :
    ((((((((O.modify i.toNat fun row => row.set (Int.toNat 0) a).modify i.toNat fun row => row.set (Int.toNat 1) b).modify i.toNat fun row => row.set (Int.toNat 2) c).modify i.toNat fun row => row.set (Int.toNat 3) d).modify i.toNat fun row => row.set (Int.toNat 4) (cel O i 4)).modify i.toNat fun row => row.set (Int.toNat 5) (cel O i 5)).modify i.toNat fun row => row.set (Int.toNat 6) (cel O i 6)).modify i.toNat fun row => row.set (Int.toNat 7) (cel O i 7)).modify i.toNat (fun row => row.set (Int.toNat 8) (cel O i 8)) = put4 O i a b c d := by
  simp only [List.modify_modify_eq]
  refine modify_at fun r hr => ?_
  obtain ⟨a0, a1, a2, a3, a4, a5, a6, a7, a8, a9, rfl⟩ := row_is hO hr
  have e : O.getD i.toNat [] = [a0, a1, a2, a3, a4, a5, a6, a7, a8, a9] := by rw [List.getD_eq_getElem?_getD, hr]; rfl
  simp only [cel, e]
  rfl
theorem k10_len {O : Tab} (h : ∀ row ∈ O, okRow [.i .i64, .i .i64, .b, .b, .i .u64, .i .u64, .i .u64, .i .u64, .i .i64, .i .i64] row) : ∀ row ∈ O, row.length = 10 := fun row hr => by
  have := h row hr
  match row, this with
  | [a0, a1, a2, a3, a4, a5, a6, a7, a8, a9], _ => rfl
theorem nx_four {s on w h ev cpu : Int} {r : List Int} (e : nx4 s on w h ev cpu = some r) : r.length = 4 := by
  unfold nx4 at e
  repeat' split at e
  all_goals first | (cases e; done) | (simp only [Option.some.injEq] at e; subst e; rfl)
/-- It can be. -/
theorem ev_yes (h : nxB O i ev cpu = true) : evO O i ev cpu = put4 O i (cel (nxT O i ev cpu) 0 0) (cel (nxT O i ev cpu) 0 1) (cel (nxT O i ev cpu) 0 2) (cel (nxT O i ev cpu) 0 3) := by
  unfold nxB at h
  unfold evO nxT
  cases e : nxO O i ev cpu with
  | none => rw [e] at h; cases h
  | some r => rfl
theorem ev_no (h : nxB O i ev cpu = false) : evO O i ev cpu = O ∧ evA O A i ev cpu home = A ∧ evR O R i ev cpu = R ∧ evB O B i ev cpu = B := by
  have hc : ¬ evC O i ev cpu = true := by unfold evC; rw [h]; simp
  refine ⟨?_, if_neg hc, if_neg hc, if_neg hc⟩
  unfold nxB at h
  unfold evO
  cases e : nxO O i ev cpu with
  | none => rfl
  | some r => rw [e] at h; cases h
theorem ev_same (h : cel (nxT O i ev cpu) 0 0 = cel O i 0) : evA O A i ev cpu home = A ∧ evR O R i ev cpu = R ∧ evB O B i ev cpu = B := by
  have hc : ¬ evC O i ev cpu = true := by unfold evC; rw [decide_eq_true h]; simp
  exact ⟨if_neg hc, if_neg hc, if_neg hc⟩
theorem ev_chg (h : nxB O i ev cpu = true) (h' : ¬ cel (nxT O i ev cpu) 0 0 = cel O i 0) :
    evA O A i ev cpu home = enA (evO O i ev cpu) (lvA O A i) home i ∧ evR O R i ev cpu = enR (evO O i ev cpu) (lvR O R i) i ∧ evB O B i ev cpu = enB (evO O i ev cpu) B i := by
  have hc : evC O i ev cpu = true := by unfold evC; rw [h, decide_eq_false h']; rfl
  exact ⟨if_pos hc, if_pos hc, if_pos hc⟩
theorem modify_len {O : Tab} (hO : ∀ row ∈ O, row.length = 10) {n j : Nat} {x : Int} : ∀ row ∈ O.modify n (fun row => row.set j x), row.length = 10 := fun row hr => by
  obtain ⟨m, hm⟩ := List.getElem?_of_mem hr
  rw [List.getElem?_modify] at hm
  cases ho : O[m]? with
  | none => rw [ho] at hm; cases hm
  | some r =>
    have := hO r (List.mem_of_getElem? ho)
    rw [ho] at hm
    simp at hm
    subst hm
    split <;> simp [this]
theorem cel_set {O : Tab} (hO : ∀ row ∈ O, row.length = 10) {i x : Int} {j : Nat} (h0 : 0 ≤ i) (h1 : i < O.length) (hj : j < 10) : cel (O.modify i.toNat fun row => row.set j x) i j = x := by
  have hi : i.toNat < O.length := by omega
  have hr : O[i.toNat]? = some O[i.toNat] := List.getElem?_eq_getElem hi
  have hl := hO _ (List.getElem_mem hi)
  unfold cel
  rw [List.getD_eq_getElem?_getD (l := O.modify _ _), List.getElem?_modify, hr]
  simp [hl, hj]
/-- Who comes to run does so on the CPU that picked it. -/
theorem nx_to2 (h : nxB O i ev cpu = true) (h2 : cel (nxT O i ev cpu) 0 0 = 2) (h' : ¬ cel (nxT O i ev cpu) 0 0 = cel O i 0) : cel (nxT O i ev cpu) 0 1 = cpu := by
  unfold nxB at h
  cases e : nxO O i ev cpu with
  | none => rw [e] at h; cases h
  | some r =>
    have et : nxT O i ev cpu = [r] := by unfold nxT; rw [e]; rfl
    rw [et] at h2 h' ⊢
    have hs : ¬ cel O i 0 = 2 := fun x => h' (by rw [h2, x])
    unfold nxO nx4 at e
    clear h h' et
    revert h2
    repeat' split at e
    all_goals first
      | (cases e; done)
      | (simp only [Option.some.injEq] at e; subst e; intro h2; exact (rfl : cpu = cpu))
      | (simp only [Option.some.injEq] at e; subst e; intro h2; exfalso; have h3 : (if cel O i 3 = 1 then (4 : Int) else 1) = 2 := h2; split at h3 <;> exact absurd h3 (by decide))
      | (simp only [Option.some.injEq] at e; subst e; intro h2; exfalso; simp at h2; done)
      | (simp only [Option.some.injEq] at e; subst e; intro h2; exfalso; have h3 : cel O i 0 = 2 := h2; omega)
end
end Go.SF.C21
namespace Go.SF.C21
open Go.SF Go.SF.C17
set_option linter.unusedVariables false

section
variable {O A B R : Tab} {i j ev cpu home c a b d e x : Int}
theorem put4_len : (put4 O i a b c d).length = O.length := by unfold put4; rw [List.length_modify]
theorem put4_at (hO : ∀ row ∈ O, row.length = 10) (h0 : 0 ≤ i) (h1 : i < O.length) : cel (put4 O i a b c d) i 0 = a ∧ cel (put4 O i a b c d) i 1 = b ∧ cel (put4 O i a b c d) i 2 = c ∧ cel (put4 O i a b c d) i 3 = d ∧ ∀ q, 4 ≤ q → cel (put4 O i a b c d) i q = cel O i q := by
  have hi : i.toNat < O.length := by omega
  have hr : O[i.toNat]? = some O[i.toNat] := List.getElem?_eq_getElem hi
  obtain ⟨a0, a1, a2, a3, a4, a5, a6, a7, a8, a9, hl⟩ := row_is hO hr
  have e : (put4 O i a b c d).getD i.toNat [] = [a, b, c, d, a4, a5, a6, a7, a8, a9] := by
    unfold put4
    rw [List.getD_eq_getElem?_getD, List.getElem?_modify, hr, hl]
    simp
  have e' : O.getD i.toNat [] = [a0, a1, a2, a3, a4, a5, a6, a7, a8, a9] := by rw [List.getD_eq_getElem?_getD, hr, hl]; rfl
  simp only [cel, e, e']
  refine ⟨rfl, rfl, rfl, rfl, fun q hq => ?_⟩
  match q, hq with
  | q + 4, _ => rfl
theorem put4_ne (h0 : 0 ≤ i) (h0' : 0 ≤ j) (h : ¬ j = i) (q : Nat) : cel (put4 O i a b c d) j q = cel O j q := by
  have e : (put4 O i a b c d).getD j.toNat [] = O.getD j.toNat [] := by
    unfold put4
    have hne : ¬ i.toNat = j.toNat := by omega
    rw [List.getD_eq_getElem?_getD, List.getElem?_modify, List.getD_eq_getElem?_getD]
    cases O[j.toNat]? with
    | none => rfl
    | some r => simp [hne]
  simp only [cel, e]
theorem put4_rows (hO : ∀ row ∈ O, row.length = 10) : ∀ row ∈ put4 O i a b c d, row.length = 10 := fun row hr => by
  obtain ⟨m, hm⟩ := List.getElem?_of_mem hr
  unfold put4 at hm
  rw [List.getElem?_modify] at hm
  cases ho : O[m]? with
  | none => rw [ho] at hm; cases hm
  | some r =>
    have := hO r (List.mem_of_getElem? ho)
    rw [ho] at hm
    simp at hm
    subst hm
    split <;> simp [this]
/-- One that can be, behind an event that is no Pick. -/
theorem nx_right {s on w h s' on' w' h' : Int} (e : nx4 s on w h ev cpu = some [s', on', w', h']) (hp : ¬ ev = 2) (h0 : 0 ≤ s) (h1 : s ≤ 5) (h2 : ¬ s = 2 → on = -1 ∧ w = 0) (h3 : ¬ s = 2 → ¬ s = 3 → h = 0) :
    0 ≤ s' ∧ s' ≤ 5 ∧ (s' = 2 → s = 2 ∧ on' = on) ∧ (¬ s' = 2 → on' = -1 ∧ w' = 0) ∧ (¬ s' = 2 → ¬ s' = 3 → h' = 0) := by
  unfold nx4 at e
  repeat' split at e
  all_goals first
    | (cases e; done)
    | (simp only [Option.some.injEq, List.cons.injEq, and_true] at e
       obtain ⟨e1, e2, e3, e4⟩ := e
       omega)
theorem nx_pickE {s on w h s' on' w' h' : Int} (e : nx4 s on w h 2 cpu = some [s', on', w', h']) (hs : s = 1) : s' = 2 ∧ on' = cpu ∧ w' = w ∧ h' = h := by
  subst hs
  have e : some [2, cpu, w, h] = some [s', on', w', h'] := e
  simp only [Option.some.injEq, List.cons.injEq, and_true] at e
  obtain ⟨e1, e2, e3, e4⟩ := e
  exact ⟨e1.symm, e2.symm, e3.symm, e4.symm⟩
theorem four {r : List Int} (h : r.length = 4) : ∃ a b c d, r = [a, b, c, d] := by
  match r, h with
  | [a, b, c, d], _ => exact ⟨a, b, c, d, rfl⟩
theorem setC_at (hR : ∀ r ∈ R, r.length = 1) (h0 : 0 ≤ c) (h1 : c < R.length) : cel (setC R c x) c 0 = x := r_at h0 h1 hR
theorem setC_ne (h0 : 0 ≤ c) (h0' : 0 ≤ j) (h : ¬ j = c) : cel (setC R c x) j 0 = cel R j 0 := r_ne h0 h0' (fun e => h e.symm) 0
theorem mem_drop (hn : A.flatten.Nodup) (x : Int) : x ∈ (dropT A i).flatten ↔ ¬ x = i ∧ x ∈ A.flatten := by
  by_cases hk : hasB A i = true
  · have hp := C17.drop_flat hk
    have hn' : (i :: (dropT A i).flatten).Nodup := hp.nodup_iff.1 hn
    rw [hp.mem_iff, List.mem_cons]
    constructor
    · intro h
      exact ⟨fun e => by subst e; exact (List.nodup_cons.1 hn').1 h, .inr h⟩
    · rintro ⟨h1, h2 | h2⟩
      · exact absurd h2 h1
      · exact h2
  · rw [drop_not (by simpa using hk)]
    constructor
    · intro h
      exact ⟨fun e => by subst e; exact hk (has_iff.2 h), h⟩
    · exact fun h => h.2
theorem mem_lay (h0 : 0 ≤ c) (h1 : c < A.length) (x : Int) : x ∈ (layT A c i).flatten ↔ x = i ∨ x ∈ A.flatten := by
  rw [(C17.lay_flat h0 h1).mem_iff, List.mem_cons]
/-- A push of one that is not there does. -/
theorem mem_push (hn : A.flatten.Nodup) (hr : ∀ y ∈ A.flatten, 0 ≤ y ∧ y < O.length) (hO : O.length ≤ 64) (hi : ¬ i ∈ A.flatten) (i0 : 0 ≤ i) (i1 : i < O.length) (h0 : 0 ≤ c) (h1 : c < A.length) (x : Int) :
    x ∈ (pushT A c i 64).flatten ↔ x = i ∨ x ∈ A.flatten := by
  have hl : (i :: A.flatten).length ≤ 64 := by
    refine Nat.le_trans (nodup_len O.length _ (List.nodup_cons.2 ⟨hi, hn⟩) fun y hy => ?_) hO
    rcases List.mem_cons.1 hy with rfl | hy
    · exact ⟨i0, i1⟩
    · exact hr y hy
  have hrow : (rowL A c).length ≤ A.flatten.length := (List.sublist_flatten_of_mem (rowL_mem h0 h1)).length_le
  have hk : hasB A i = false := by
    cases e : hasB A i with
    | false => rfl
    | true => exact absurd (has_iff.1 e) hi
  rw [(push_ok h0 h1 (by omega) hk (by simp only [List.length_cons] at hl; unfold lenR; omega)).2]
  exact mem_lay h0 h1 x
/-- WHATEVER HAPPENS, it holds still. -/
theorem inv_ev (hI : Inv O A R) (hn : A.flatten.Nodup) (hO : ∀ row ∈ O, row.length = 10) (hR : ∀ row ∈ R, row.length = 1) (h0 : 0 ≤ i) (h1 : i < O.length) (hl : O.length ≤ 64) (hp : ¬ ev = 2)
    (c0 : 0 ≤ home) (c1 : home < A.length) : Inv (evO O i ev cpu) (evA O A i ev cpu home) (evR O R i ev cpu) := by
  cases e : nxO O i ev cpu with
  | none =>
    have hb : nxB O i ev cpu = false := by unfold nxB; rw [e]; rfl
    obtain ⟨v1, v2, v3, _⟩ := ev_no (A := A) (R := R) (B := []) (home := home) hb
    rw [v1, v2, v3]; exact hI
  | some r =>
    obtain ⟨s', on', w', h', rfl⟩ := four (nx_four e)
    have hb : nxB O i ev cpu = true := by unfold nxB; rw [e]; rfl
    have eN : nxT O i ev cpu = [[s', on', w', h']] := by unfold nxT; rw [e]; rfl
    have eO := ev_yes hb
    rw [eN] at eO
    have eO : evO O i ev cpu = put4 O i s' on' w' h' := eO
    have g := hI.row i h0 h1
    obtain ⟨t1, t2, t3, t4, t5⟩ := nx_right e hp g.lo g.hi g.rest g.held
    obtain ⟨p0, p1, p2, p3, p4⟩ := put4_at (a := s') (b := on') (c := w') (d := h') hO h0 h1
    have iA : i ∈ A.flatten ↔ cel O i 0 = 1 := by rw [hI.ids]; simp [h0, h1]
    have idr : ∀ y ∈ A.flatten, 0 ≤ y ∧ y < O.length := fun y hy => by have := (hI.ids y).1 hy; exact ⟨this.1, this.2.1⟩
    have old : ∀ k : Int, 0 ≤ k → ¬ k = i → ∀ q, cel (put4 O i s' on' w' h') k q = cel O k q := fun k hk hne q => put4_ne h0 hk hne q
    have cp : ∀ k : Int, 0 ≤ k → k < R.length → cel R k 0 = i → cel O i 0 = 2 ∧ cel O i 1 = k := fun k k0 k1 hk => by
      rcases hI.cpu k k0 k1 with h | ⟨_, _, h3, h4⟩
      · rw [hk] at h; omega
      · rw [hk] at h3 h4; exact ⟨h3, h4⟩
    by_cases hs : s' = cel O i 0
    · obtain ⟨v1, v2, _⟩ := ev_same (O := O) (A := A) (R := R) (B := []) (i := i) (ev := ev) (cpu := cpu) (home := home) (by rw [eN]; exact hs)
      rw [v1, v2, eO]
      refine inv_put hI put4_len rfl h0 h1 old ?_ (fun x => ?_) (fun k k0 k1 => ?_)
      · refine ⟨by rw [p4 8 (by decide)]; exact g.c, by rw [p0]; exact t1, by rw [p0]; exact t2, ?_, by rw [p0, p1, p2]; exact t4, by rw [p0, p3]; exact t5⟩
        rw [p0, p1]
        intro h
        obtain ⟨u1, u2⟩ := t3 h
        rw [u2]; exact g.runs u1
      · rw [p0, hs, ← iA]
        by_cases hx : x = i
        · subst hx; simp
        · simp [hx]
      · by_cases hk : cel R k 0 = i
        · left
          obtain ⟨u1, u2⟩ := cp k k0 k1 hk
          exact ⟨.inr hk, hk, by rw [p0]; omega, by rw [p1, (t3 (by omega)).2]; exact u2⟩
        · exact .inr (.inl ⟨hk, hk, rfl⟩)
    · obtain ⟨v1, v2, _⟩ := ev_chg (O := O) (A := A) (R := R) (B := []) (i := i) (ev := ev) (cpu := cpu) (home := home) hb (by rw [eN]; exact hs)
      have hs2 : ¬ s' = 2 := fun h => hs (by rw [h, (t3 h).1])
      rw [v1, v2, eO]
      have eR : enR (put4 O i s' on' w' h') (lvR O R i) i = lvR O R i := if_neg (by rw [p0]; exact hs2)
      rw [eR]
      have row' : ∀ R' : Tab, Row (put4 O i s' on' w' h') R' i := fun R' => ⟨by rw [p4 8 (by decide)]; exact g.c, by rw [p0]; exact t1, by rw [p0]; exact t2, by rw [p0]; exact fun h => absurd h hs2, by rw [p0, p1, p2]; exact t4, by rw [p0, p3]; exact t5⟩
      by_cases e2 : cel O i 0 = 2
      · obtain ⟨l1, l2⟩ := lv_2 (A := A) (R := R) e2
        obtain ⟨r1, r2, r3⟩ := g.runs e2
        rw [l1, l2]
        have hiA : ¬ i ∈ A.flatten := by rw [iA]; omega
        refine inv_put hI put4_len (setC_len ..) h0 h1 old (row' _) (fun x => ?_) (fun k k0 k1 => ?_)
        · rw [p0]
          unfold enA
          rw [p0]
          by_cases h1' : s' = 1
          · rw [if_pos h1', mem_push hn idr hl hiA h0 h1 c0 c1]
            by_cases hx : x = i
            · simp [hx, h1']
            · simp [hx]
          · rw [if_neg h1']
            by_cases hx : x = i
            · subst hx; simp [h1', hiA]
            · simp [hx]
        · by_cases hk : k = cel O i 1
          · subst hk
            exact .inr (.inr ⟨r3, setC_at hR r1 r2⟩)
          · have hne : ¬ cel R k 0 = i := fun h => hk (cp k k0 k1 h).2.symm
            have := setC_ne (R := R) (x := -1) r1 k0 hk
            exact .inr (.inl ⟨hne, by rw [this]; exact hne, this⟩)
      · have hne : ∀ k : Int, 0 ≤ k → k < R.length → ¬ cel R k 0 = i := fun k k0 k1 h => e2 (cp k k0 k1 h).1
        by_cases e1 : cel O i 0 = 1
        · obtain ⟨l1, l2⟩ := lv_1 (A := A) (R := R) e1
          rw [l1, l2]
          have hs1 : ¬ s' = 1 := fun h => hs (by rw [h, e1])
          refine inv_put hI put4_len rfl h0 h1 old (row' _) (fun x => ?_) (fun k k0 k1 => .inr (.inl ⟨hne k k0 k1, hne k k0 k1, rfl⟩))
          unfold enA
          rw [p0, if_neg hs1, mem_drop hn]
          simp [hs1]
        · obtain ⟨l1, l2⟩ := lv_0 (A := A) (R := R) e1 e2
          rw [l1, l2]
          have hiA : ¬ i ∈ A.flatten := by rw [iA]; exact e1
          refine inv_put hI put4_len rfl h0 h1 old (row' _) (fun x => ?_) (fun k k0 k1 => .inr (.inl ⟨hne k k0 k1, hne k k0 k1, rfl⟩))
          rw [p0]
          unfold enA
          rw [p0]
          by_cases h1' : s' = 1
          · rw [if_pos h1', mem_push hn idr hl hiA h0 h1 c0 c1]
            by_cases hx : x = i
            · simp [hx, h1']
            · simp [hx]
          · rw [if_neg h1']
            by_cases hx : x = i
            · subst hx; simp [h1', hiA]
            · simp [hx]
/-- One that was popped is picked. -/
theorem inv_pick {A' : Tab} (hI : Inv O A R) (hn : A.flatten.Nodup) (hp : A.flatten.Perm (i :: A'.flatten)) (hO : ∀ row ∈ O, row.length = 10) (hR : ∀ row ∈ R, row.length = 1) (c0 : 0 ≤ c) (c1 : c < R.length) (hc : cel R c 0 = -1) :
    Inv (evO O i 2 c) (evA O A' i 2 c home) (evR O R i 2 c) ∧ evA O A' i 2 c home = A' ∧ nxB O i 2 c = true := by
  have hi : i ∈ A.flatten := hp.mem_iff.2 (List.mem_cons_self ..)
  obtain ⟨h0, h1, e1⟩ := (hI.ids i).1 hi
  have hn' : (i :: A'.flatten).Nodup := hp.nodup_iff.1 hn
  have hiA : ¬ i ∈ A'.flatten := (List.nodup_cons.1 hn').1
  have e : nxO O i 2 c = some [2, c, cel O i 2, cel O i 3] := nx_pick e1 rfl
  have hb : nxB O i 2 c = true := by unfold nxB; rw [e]; rfl
  have eN : nxT O i 2 c = [[2, c, cel O i 2, cel O i 3]] := by unfold nxT; rw [e]; rfl
  have eO := ev_yes hb
  rw [eN] at eO
  have eO : evO O i 2 c = put4 O i 2 c (cel O i 2) (cel O i 3) := eO
  obtain ⟨p0, p1, p2, p3, p4⟩ := put4_at (a := 2) (b := c) (c := cel O i 2) (d := cel O i 3) hO h0 h1
  obtain ⟨v1, v2, _⟩ := ev_chg (O := O) (A := A') (R := R) (B := []) (i := i) (ev := 2) (cpu := c) (home := home) hb (by rw [eN, e1]; show ¬ (2 : Int) = 1; decide)
  obtain ⟨l1, l2⟩ := lv_1 (A := A') (R := R) e1
  have hd : dropT A' i = A' := drop_not (by
    cases e : hasB A' i with
    | false => rfl
    | true => exact absurd (has_iff.1 e) hiA)
  have eA : enA (put4 O i 2 c (cel O i 2) (cel O i 3)) A' home i = A' := if_neg (by rw [p0]; decide)
  have eR : enR (put4 O i 2 c (cel O i 2) (cel O i 3)) R i = setC R c i := by unfold enR; rw [p0, p1]; exact if_pos rfl
  rw [v1, v2, eO, l1, l2, hd, eA, eR]
  have g := hI.row i h0 h1
  refine ⟨inv_put hI put4_len (setC_len ..) h0 h1 (fun k hk hne q => put4_ne h0 hk hne q) ?_ (fun x => ?_) (fun k k0 k1 => ?_), rfl, hb⟩
  · refine ⟨by rw [p4 8 (by decide)]; exact g.c, by rw [p0]; decide, by rw [p0]; decide, ?_, by rw [p0]; exact fun h => absurd rfl h, by rw [p0]; exact fun h => absurd rfl h⟩
    rw [p1]
    exact fun _ => ⟨c0, by rw [setC_len]; exact c1, setC_at hR c0 c1⟩
  · rw [p0, hp.mem_iff, List.mem_cons]
    constructor
    · intro h
      exact .inl ⟨fun e => by subst e; exact hiA h, .inr h⟩
    · rintro (⟨h1, h2 | h2⟩ | ⟨_, h2⟩)
      · exact absurd h2 h1
      · exact h2
      · exact absurd h2 (by decide)
  · by_cases hk : k = c
    · subst hk
      exact .inl ⟨.inl hc, setC_at hR k0 k1, p0, p1⟩
    · have := setC_ne (R := R) (x := i) c0 k0 hk
      have hne : ¬ cel R k 0 = i := fun h => by
        rcases hI.cpu k k0 k1 with h2 | ⟨_, _, h3, h4⟩
        · rw [h] at h2; omega
        · rw [h] at h3; omega
      exact .inr (.inl ⟨hne, by rw [this]; exact hne, this⟩)
end
end Go.SF.C21
namespace Go.SF.C21
open Go.SF Go.SF.C17
set_option linter.unusedVariables false

abbrev KO : List CK := [.i .i64, .i .i64, .b, .b, .i .u64, .i .u64, .i .u64, .i .u64, .i .i64, .i .i64]
section
variable {O A B C R M : Tab} {i j ev cpu home c x q : Int}
theorem row_iff : rowB O R i = true ↔ Row O R i := by
  unfold rowB
  rw [decide_eq_true_eq]
  exact ⟨fun ⟨a, b, c, d, e, f⟩ => ⟨a, b, c, d, e, f⟩, fun h => ⟨h.c, h.lo, h.hi, h.runs, h.rest, h.held⟩⟩
theorem invS_iff : invS O A R = true ↔ Inv O A R := by
  unfold invS
  rw [Bool.and_eq_true, Bool.and_eq_true, range_all (p := fun i => rowB O R i && (!decide (cel O i 0 = 1) || hasB A i)), range_all (p := fun c => cpuOK O R c), List.all_eq_true]
  constructor
  · rintro ⟨h1, h2, h3⟩
    refine ⟨fun i h0 hl => row_iff.1 (by have := h1 i h0 hl; rw [Bool.and_eq_true] at this; exact this.1), fun c h0 hl => ?_, fun x => ⟨fun hx => ?_, fun ⟨h0, hl, e⟩ => ?_⟩⟩
    · have := h2 c h0 hl
      simp only [cpuOK, Bool.or_eq_true, decide_eq_true_eq] at this
      exact this
    · have := h3 x hx
      simpa only [idOK, decide_eq_true_eq] using this
    · have := h1 x h0 hl
      rw [Bool.and_eq_true, Bool.or_eq_true, decide_eq_true (p := cel O x 0 = 1) e] at this
      rcases this.2 with h | h
      · cases h
      · exact has_iff.1 h
  · intro h
    refine ⟨fun i h0 hl => ?_, fun c h0 hl => ?_, fun x hx => ?_⟩
    · rw [Bool.and_eq_true, Bool.or_eq_true]
      refine ⟨row_iff.2 (h.row i h0 hl), ?_⟩
      by_cases e : cel O i 0 = 1
      · exact .inr (has_iff.2 ((h.ids i).2 ⟨h0, hl, e⟩))
      · exact .inl (by rw [decide_eq_false e]; rfl)
    · simp only [cpuOK, Bool.or_eq_true, decide_eq_true_eq]
      exact h.cpu c h0 hl
    · simp only [idOK, decide_eq_true_eq]
      exact (h.ids x).1 hx
theorem one_len (h : ∀ row ∈ R, okRow [.i .i64] row) : ∀ row ∈ R, row.length = 1 := fun row hr => okRow_len (h row hr)
theorem inv_nodup {rm : Int} (h : invB A M rm = true) : A.flatten.Nodup := (inv_iff.1 h).2.1
theorem ev_ok (hI : invS O A R = true) (hQ : invB A M 64 = true) (hO : ∀ row ∈ O, okRow KO row) (hR : ∀ row ∈ R, okRow [.i .i64] row) (h0 : 0 ≤ i) (h1 : i < O.length) (hl : (O.length : Int) ≤ 64) (hp : ¬ ev = 2)
    (c0 : 0 ≤ home) (c1 : home < A.length) : invS (evO O i ev cpu) (evA O A i ev cpu home) (evR O R i ev cpu) = true :=
  invS_iff.2 (inv_ev (invS_iff.1 hI) (inv_nodup hQ) (k10_len hO) (one_len hR) h0 h1 (by omega) hp c0 c1)
theorem right_of (hI : invS O A R = true) (hO : ∀ row ∈ O, okRow KO row) (h0 : 0 ≤ i) (h1 : i < O.length) (h8 : (R.length : Int) ≤ 8) : right8 O i = true := by
  have g := (invS_iff.1 hI).row i h0 h1
  have hm : O.getD i.toNat [] ∈ O := by
    rw [List.getD_eq_getElem?_getD, List.getElem?_eq_getElem (by omega)]; exact List.getElem_mem _
  have hb := hO _ hm
  rw [right_iff]
  refine ⟨g.lo, g.hi, g.c, ?_, ?_, fun h => ?_, g.rest, g.held⟩
  · unfold cel
    match hr : O.getD i.toNat [], hb with
    | [a0, a1, a2, a3, a4, a5, a6, a7, a8, a9], hb => exact hb.2.2.1
  · unfold cel
    match hr : O.getD i.toNat [], hb with
    | [a0, a1, a2, a3, a4, a5, a6, a7, a8, a9], hb => exact hb.2.2.2.1
  · have := g.runs h
    omega
theorem idx_of (hI : invS O A R = true) (h0 : 0 ≤ i) (h1 : i < O.length) (h2 : cel O i 0 = 2) : 0 ≤ cel O i 1 ∧ cel O i 1 < R.length := by
  have := ((invS_iff.1 hI).row i h0 h1).runs h2
  exact ⟨this.1, this.2.1⟩
theorem in_run (hI : invS O A R = true) (h0 : 0 ≤ c) (h1 : c < R.length) (h : ¬ cel R c 0 = -1) : 0 ≤ cel R c 0 ∧ cel R c 0 < O.length := by
  rcases (invS_iff.1 hI).cpu c h0 h1 with h2 | ⟨h2, h3, _⟩
  · exact absurd h2 h
  · exact ⟨h2, h3⟩
theorem home_in {n : Int} (h0 : 0 ≤ i) (h1 : 1 ≤ n) : 0 ≤ i.tmod n ∧ i.tmod n < n := by
  rw [Int.tmod_eq_emod_of_nonneg h0]
  exact ⟨Int.emod_nonneg _ (by omega), Int.emod_lt_of_pos _ (by omega)⟩
/-- One that is popped. -/
theorem pop_in (hI : invS O A R = true) (hT : 1 ≤ (A.length : Int)) (h0 : 0 ≤ c) (h1 : c < A.length) (ha : anyB A = true) : 0 ≤ popX A c ∧ popX A c < O.length ∧ cel O (popX A c) 0 = 1 := by
  have hp := pop_flat hT h0 h1 ha
  exact ((invS_iff.1 hI).ids _).1 (hp.mem_iff.2 (List.mem_cons_self ..))
theorem evR_pick (h : cel O i 0 = 1) (hO : ∀ row ∈ O, okRow KO row) (h0 : 0 ≤ i) (h1 : i < O.length) : evR O R i 2 c = setC R c i ∧ evB O B i 2 c = B := by
  have e : nxO O i 2 c = some [2, c, cel O i 2, cel O i 3] := nx_pick h rfl
  have hb : nxB O i 2 c = true := by unfold nxB; rw [e]; rfl
  have eN : nxT O i 2 c = [[2, c, cel O i 2, cel O i 3]] := by unfold nxT; rw [e]; rfl
  have eO := ev_yes hb
  rw [eN] at eO
  have eO : evO O i 2 c = put4 O i 2 c (cel O i 2) (cel O i 3) := eO
  obtain ⟨p0, p1, _⟩ := put4_at (a := 2) (b := c) (c := cel O i 2) (d := cel O i 3) (k10_len hO) h0 h1
  obtain ⟨_, v2, v3⟩ := ev_chg (O := O) (A := []) (R := R) (B := B) (i := i) (ev := 2) (cpu := c) (home := 0) hb (by rw [eN, h]; show ¬ (2 : Int) = 1; decide)
  have l2 : lvR O R i = R := if_neg (by omega)
  have eR : enR (put4 O i 2 c (cel O i 2) (cel O i 3)) R i = setC R c i := by unfold enR; rw [p0, p1]; exact if_pos rfl
  have eB : enB (put4 O i 2 c (cel O i 2) (cel O i 3)) B i = B := if_neg (by rw [p0]; decide)
  rw [v2, v3, eO, l2, eR, eB]
  exact ⟨rfl, rfl⟩
/-- Dispatch's state. -/
theorem disp_ok (hI : invS O A R = true) (hQ : invB A M 64 = true) (hO : ∀ row ∈ O, okRow KO row) (hR : ∀ row ∈ R, okRow [.i .i64] row) (hT : 1 ≤ (A.length : Int)) (hl : (R.length : Int) = A.length) (h0 : 0 ≤ c) (h1 : c < R.length) (he : cel R c 0 = -1) (ha : anyB A = true) :
    invS (evO O (popX A c) 2 c) (popT A c) (setC R c (popX A c)) = true ∧ evA O (popT A c) (popX A c) 2 c c = popT A c ∧ evR O R (popX A c) 2 c = setC R c (popX A c) ∧ evB O B (popX A c) 2 c = B := by
  have hp := pop_flat hT h0 (by omega) ha
  obtain ⟨p0, p1, p2⟩ := pop_in hI hT h0 (by omega) ha
  obtain ⟨q1, q2⟩ := evR_pick (R := R) (B := B) (c := c) p2 hO p0 p1
  obtain ⟨k1, k2, _⟩ := inv_pick (home := c) (invS_iff.1 hI) (inv_nodup hQ) hp (k10_len hO) (one_len hR) h0 h1 he
  rw [k2, q1] at k1
  exact ⟨invS_iff.2 k1, k2, q1, q2⟩
theorem ds_yes (h : C18.crI C i < 1) : dsC C i q = putK C [i, C18.rfI C i q 1] := if_pos h
theorem ds_no (h : ¬ C18.crI C i < 1) : dsC C i q = C := if_neg h
/-- One more. -/
theorem add_ok (hI : invS O A R = true) (hO : ∀ row ∈ O, okRow KO row) : invS (O ++ [[0, -1, 0, 0, 0, 0, 0, 0, 0, x]]) A R = true := by
  have h := invS_iff.1 hI
  have len : ((O ++ [[0, -1, 0, 0, 0, 0, 0, 0, 0, x]]).length : Int) = O.length + 1 := by simp
  have old : ∀ i : Int, 0 ≤ i → i < O.length → ∀ q, cel (O ++ [[0, -1, 0, 0, 0, 0, 0, 0, 0, x]]) i q = cel O i q := fun i h0 h1 q => cat_old (v := x) h0 h1 q
  have new : ∀ q, cel (O ++ [[0, -1, 0, 0, 0, 0, 0, 0, 0, x]]) O.length q = [0, -1, 0, 0, 0, 0, 0, 0, 0, x].getD q 0 := fun q => cat_new (v := x) q
  refine invS_iff.2 ⟨fun i h0 h1 => ?_, fun c c0 c1 => ?_, fun y => ?_⟩
  · by_cases e : i < O.length
    · have g := h.row i h0 e
      have o := old i h0 e
      exact ⟨by rw [o]; exact g.c, by rw [o]; exact g.lo, by rw [o]; exact g.hi, by rw [o, o]; exact g.runs, by rw [o, o, o]; exact g.rest, by rw [o, o]; exact g.held⟩
    · have e : i = O.length := by omega
      subst e
      refine ⟨by rw [new]; rfl, by rw [new]; exact (show (0 : Int) ≤ 0 by decide), by rw [new]; exact (show (0 : Int) ≤ 5 by decide), by rw [new]; exact fun h => absurd (show (0 : Int) = 2 from h) (by decide), fun _ => ⟨by rw [new]; rfl, by rw [new]; rfl⟩, fun _ _ => by rw [new]; rfl⟩
  · rcases h.cpu c c0 c1 with s | ⟨s1, s2, s3, s4⟩
    · exact .inl s
    · exact .inr ⟨s1, by omega, by rw [old _ s1 s2]; exact s3, by rw [old _ s1 s2]; exact s4⟩
  · rw [h.ids]
    constructor
    · rintro ⟨a, b, d⟩
      exact ⟨a, by omega, by rw [old y a b]; exact d⟩
    · rintro ⟨a, b, d⟩
      by_cases e : y < O.length
      · exact ⟨a, e, by rw [← old y a e]; exact d⟩
      · have e : y = O.length := by omega
        subst e
        rw [new] at d
        exact absurd (show (0 : Int) = 1 from d) (by decide)
theorem row64 (h : invB A M 64 = true) (c : Int) : ((rowT A c).length : Int) ≤ 64 := by
  rw [lenR_rowT]
  unfold lenR rowL
  by_cases hc : c.toNat < A.length
  · refine (inv_iff.1 h).1 _ ?_
    rw [List.getD_eq_getElem?_getD, List.getElem?_eq_getElem hc]; exact List.getElem_mem hc
  · rw [List.getD_eq_getElem?_getD, List.getElem?_eq_none (by omega)]; decide
theorem add_len : ((O ++ [[0, -1, 0, 0, 0, 0, 0, 0, 0, x]] : Tab).length : Int) = O.length + 1 := by simp
end
end Go.SF.C21
namespace Go.SF.C21
open Go.SF Go.SF.C17
set_option linter.unusedVariables false

section
variable {O A B C R L F W : Tab} {i c t k ev cpu : Int}
theorem tk_skip (h0 : 0 ≤ c) (h1 : c < R.length) (h : cel R c 0 = -1) : tkL O A R C L c t = tkL O A R C L (c + 1) t := by
  unfold tkL
  rw [show R.length - c.toNat = (R.length - (c + 1).toNat) + 1 by omega]
  show tk1 _ _ _ (tkA c t O A R C L) = _
  unfold tkA
  rw [if_pos h]
theorem tk_low (h0 : 0 ≤ c) (h1 : c < R.length) (h : ¬ cel R c 0 = -1) (hl : C18.chI C (cel R c 0) t < 1) (hr : ((evR O R (cel R c 0) 3 0).length : Int) = R.length) :
    tkL O A R C L c t = tkL (evO O (cel R c 0) 3 0) (evA O A (cel R c 0) 3 0 c) (evR O R (cel R c 0) 3 0) (putK C [cel R c 0, C18.chI C (cel R c 0) t]) (L ++ [[cel R c 0]]) (c + 1) t := by
  unfold tkL
  rw [show R.length - c.toNat = ((evR O R (cel R c 0) 3 0).length - (c + 1).toNat) + 1 by omega]
  show tk1 _ _ _ (tkA c t O A R C L) = _
  unfold tkA
  rw [if_neg h, if_pos hl]
theorem tk_high (h0 : 0 ≤ c) (h1 : c < R.length) (h : ¬ cel R c 0 = -1) (hl : ¬ C18.chI C (cel R c 0) t < 1) :
    tkL O A R C L c t = tkL O A R (putK C [cel R c 0, C18.chI C (cel R c 0) t]) L (c + 1) t := by
  unfold tkL
  rw [show R.length - c.toNat = (R.length - (c + 1).toNat) + 1 by omega]
  show tk1 _ _ _ (tkA c t O A R C L) = _
  unfold tkA
  rw [if_neg h, if_neg hl]
theorem tk_end (h1 : ¬ c < R.length) : tkL O A R C L c t = (O, A, R, C, L) := by
  unfold tkL
  rw [show R.length - c.toNat = 0 by omega]
  rfl
theorem wk_drop (h0 : 0 ≤ k) (h1 : k < F.length) : F.drop k.toNat = F.getD k.toNat [] :: F.drop (k + 1).toNat := by
  rw [show (k + 1).toNat = k.toNat + 1 by omega, List.drop_eq_getElem_cons (by omega)]
  congr 1
  rw [List.getD_eq_getElem?_getD, List.getElem?_eq_getElem (by omega)]; rfl
theorem wk_yes (h0 : 0 ≤ k) (h1 : k < F.length) (g0 : 0 ≤ cel F k 0) (g1 : cel F k 0 < O.length) :
    wkL O A R F W k = wkL (evO O (cel F k 0) 5 0) (evA O A (cel F k 0) 5 0 ((cel F k 0).tmod R.length)) (evR O R (cel F k 0) 5 0) F (W ++ [[cel F k 0]]) (k + 1) := by
  unfold wkL
  rw [wk_drop h0 h1]
  show wk _ (wkA _ O A R W) = _
  unfold wkA
  rw [if_pos ⟨g0, g1⟩]
theorem wk_no (h0 : 0 ≤ k) (h1 : k < F.length) (g : cel F k 0 < 0 ∨ O.length ≤ cel F k 0) : wkL O A R F W k = wkL O A R F (W ++ [[cel F k 0]]) (k + 1) := by
  unfold wkL
  rw [wk_drop h0 h1]
  show wk _ (wkA _ O A R W) = _
  unfold wkA
  have g : cel F k 0 < 0 ∨ (O.length : Int) ≤ cel F k 0 := g
  rw [if_neg (by simp only [cel] at g; omega)]
theorem wk_end (h1 : ¬ k < F.length) : wkL O A R F W k = (O, A, R, W) := by
  unfold wkL
  rw [List.drop_of_length_le (by omega)]
  rfl
/-- But by a Stop nobody dies. -/
theorem nx_no5 {s on w h s' on' w' h' : Int} (e : nx4 s on w h ev cpu = some [s', on', w', h']) (hp : ¬ ev = 8) : ¬ s' = 5 := by
  unfold nx4 at e
  repeat' split at e
  all_goals first
    | (cases e; done)
    | (simp only [Option.some.injEq, List.cons.injEq, and_true] at e
       obtain ⟨e1, e2, e3, e4⟩ := e
       omega)
theorem evB_keep (hO : ∀ row ∈ O, okRow KO row) (h0 : 0 ≤ i) (h1 : i < O.length) (hp : ¬ ev = 8) : evB O B i ev cpu = B := by
  cases e : nxO O i ev cpu with
  | none =>
    have hb : nxB O i ev cpu = false := by unfold nxB; rw [e]; rfl
    exact (ev_no (A := []) (R := []) (B := B) (home := 0) hb).2.2.2
  | some r =>
    obtain ⟨s', on', w', h', rfl⟩ := four (nx_four e)
    have hb : nxB O i ev cpu = true := by unfold nxB; rw [e]; rfl
    have eN : nxT O i ev cpu = [[s', on', w', h']] := by unfold nxT; rw [e]; rfl
    have eO := ev_yes hb
    rw [eN] at eO
    have eO : evO O i ev cpu = put4 O i s' on' w' h' := eO
    obtain ⟨p0, _⟩ := put4_at (a := s') (b := on') (c := w') (d := h') (k10_len hO) h0 h1
    unfold evB
    split
    · rw [eO]
      exact if_neg (by rw [p0]; exact nx_no5 e hp)
    · rfl
end
end Go.SF.C21
namespace Go.SF.C21
open Go.SF Go.SF.C17
set_option linter.unusedVariables false

section
variable {O A B C R M P : Tab} {i c k x : Int}
theorem pl_iff : plB A R P c k = true ↔ ∀ i : Int, 0 ≤ i → i < P.length → cel P i 0 = ((visK A R c k).count i : Nat) := by
  unfold plB
  rw [range_all (p := fun i => decide (cel P i 0 = ((visK A R c k).count i : Nat)))]
  exact ⟨fun h i h0 h1 => by simpa using h i h0 h1, fun h i h0 h1 => by simpa using h i h0 h1⟩
theorem vis_next (A R : Tab) (n : Nat) : vis A R (n + 1) = vis A R n ++ (run1 R n ++ rowL A n) := by
  unfold vis
  rw [List.range_succ, List.flatMap_append]
  simp
theorem run1_len (R : Tab) (c : Int) : (run1 R c).length ≤ 1 := by unfold run1; split <;> simp
theorem row_le (h : invB A M 64 = true) (c : Int) : (rowL A c).length ≤ 64 := by
  have := row64 h c
  rw [lenR_rowT] at this
  unfold lenR at this
  omega
theorem vis_len (h : invB A M 64 = true) : ∀ n : Nat, (vis A R n).length ≤ 65 * n
  | 0 => by simp [vis]
  | n + 1 => by
    rw [vis_next, List.length_append, List.length_append]
    have h2 := vis_len h n
    have := run1_len R n
    have := row_le h (n : Int)
    omega
theorem visK_len (h : invB A M 64 = true) (c1 : c ≤ 8) : (visK A R c k).length ≤ 600 := by
  unfold visK
  rw [List.length_append]
  have h1 : (vis A R c.toNat).length ≤ 65 * c.toNat := vis_len h c.toNat
  have h2 : (if k < 0 then ([] : List Int) else run1 R c ++ (rowL A c).take k.toNat).length ≤ 65 := by
    split
    · simp
    · rw [List.length_append]
      have := run1_len R c
      have := row_le h c
      have := List.length_take_le k.toNat (rowL A c)
      have := List.length_take_le' k.toNat (rowL A c)
      omega
  omega
/-- One more is seen. -/
theorem see {V V' : List Int} (hr : ∀ row ∈ P, okRow [.i .i64] row) (hV : V.length ≤ 600) (e : V' = V ++ [x]) (h : ∀ i : Int, 0 ≤ i → i < P.length → cel P i 0 = (V.count i : Nat)) (h0 : 0 ≤ x) (h1 : x < P.length) :
    ∀ i : Int, 0 ≤ i → i < (P.modify x.toNat fun row => row.set (Int.toNat 0) (IntKind.i64.wrap (cel P x 0 + 1))).length → cel (P.modify x.toNat fun row => row.set (Int.toNat 0) (IntKind.i64.wrap (cel P x 0 + 1))) i 0 = (V'.count i : Nat) := by
  intro i i0 i1
  rw [List.length_modify] at i1
  rw [e, List.count_append, List.count_singleton]
  by_cases hi : i = x
  · subst hi
    rw [r_at i0 i1 (one_len hr), h i i0 i1]
    have := List.count_le_length (a := i) (l := V)
    have e2 : IntKind.i64.wrap ((V.count i : Nat) + 1) = ((V.count i : Nat) : Int) + 1 := by
      simp [IntKind.wrap, IntKind.bits, IntKind.signed]; omega
    rw [e2]
    simp
  · rw [r_ne h0 i0 (fun h => hi h.symm), h i i0 i1]
    have : ¬ (x == i) = true := fun h => hi (by have := eq_of_beq h; exact this.symm)
    simp [this]
theorem pl_zero (n : Nat) : plB A R (List.replicate n [0]) 0 (-1) = true := by
  rw [pl_iff]
  intro i i0 i1
  rw [List.length_replicate] at i1
  have e : visK A R 0 (-1) = [] := rfl
  rw [e]
  simp only [cel, List.getD_eq_getElem?_getD, List.getElem?_replicate]
  rw [if_pos (by omega)]
  rfl
theorem visK_start (c : Int) (h : cel R c 0 = -1) : visK A R c 0 = visK A R c (-1) := by
  unfold visK run1
  rw [if_pos h]
  simp
theorem pl_none (h : plB A R P c (-1) = true) (he : cel R c 0 = -1) : plB A R P c 0 = true := by
  rw [pl_iff, visK_start c he]; exact pl_iff.1 h
theorem pl_runs (hr : ∀ row ∈ P, okRow [.i .i64] row) (hQ : invB A M 64 = true) (c1 : c ≤ 8) (h : plB A R P c (-1) = true) (he : ¬ cel R c 0 = -1) (h0 : 0 ≤ cel R c 0) (h1 : cel R c 0 < P.length) :
    plB A R (P.modify (cel R c 0).toNat fun row => row.set (Int.toNat 0) (IntKind.i64.wrap (cel P (cel R c 0) 0 + 1))) c 0 = true := by
  rw [pl_iff]
  refine see hr (visK_len hQ c1 (R := R) (k := -1)) ?_ (pl_iff.1 h) h0 h1
  unfold visK run1
  rw [if_neg he]
  simp
theorem pl_step (hr : ∀ row ∈ P, okRow [.i .i64] row) (hQ : invB A M 64 = true) (c1 : c ≤ 8) (k0 : 0 ≤ k) (k1 : k < (rowT A c).length) (h : plB A R P c k = true) (h0 : 0 ≤ cel (rowT A c) k 0) (h1 : cel (rowT A c) k 0 < P.length) :
    plB A R (P.modify (cel (rowT A c) k 0).toNat fun row => row.set (Int.toNat 0) (IntKind.i64.wrap (cel P (cel (rowT A c) k 0) 0 + 1))) c (k + 1) = true := by
  rw [pl_iff]
  refine see hr (visK_len hQ c1 (R := R) (k := k)) ?_ (pl_iff.1 h) h0 h1
  have hk : k.toNat < (rowL A c).length := by rw [rowT_len] at k1; omega
  have e : cel (rowT A c) k 0 = (rowL A c)[k.toNat] := by
    unfold cel
    rw [rowT_get, List.getD_eq_getElem?_getD, List.getElem?_eq_getElem hk]; rfl
  unfold visK
  rw [if_neg (by omega), if_neg (by omega), show (k + 1).toNat = k.toNat + 1 by omega, List.take_add_one, List.getElem?_eq_getElem hk, e]
  simp
theorem pl_end (c0 : 0 ≤ c) (k0 : 0 ≤ k) (k1 : ¬ k < (rowT A c).length) (h : plB A R P c k = true) : plB A R P (c + 1) (-1) = true := by
  rw [pl_iff]
  have e : visK A R (c + 1) (-1) = visK A R c k := by
    unfold visK
    rw [if_pos (by decide), if_neg (by omega), show (c + 1).toNat = c.toNat + 1 by omega, vis_next, show ((c.toNat : Nat) : Int) = c by omega, List.take_of_length_le (by rw [rowT_len] at k1; omega)]
    simp
  rw [e]
  exact pl_iff.1 h
/-- One in a queue. -/
theorem row_in (hI : invS O A R = true) (c0 : 0 ≤ c) (c1 : c < A.length) (k0 : 0 ≤ k) (k1 : k < (rowT A c).length) : 0 ≤ cel (rowT A c) k 0 ∧ cel (rowT A c) k 0 < O.length ∧ cel O (cel (rowT A c) k 0) 0 = 1 := by
  have hk : k.toNat < (rowL A c).length := by rw [rowT_len] at k1; omega
  have e : cel (rowT A c) k 0 = (rowL A c)[k.toNat] := by
    unfold cel
    rw [rowT_get, List.getD_eq_getElem?_getD, List.getElem?_eq_getElem hk]; rfl
  rw [e]
  refine ((invS_iff.1 hI).ids _).1 (List.mem_flatten.2 ⟨_, rowL_mem c0 c1, List.getElem_mem hk⟩)
theorem run_at (hI : invS O A R = true) (h0 : 0 ≤ c) (h1 : c < R.length) (h : ¬ cel R c 0 = -1) : 0 ≤ cel R c 0 ∧ cel R c 0 < O.length ∧ cel O (cel R c 0) 0 = 2 ∧ cel O (cel R c 0) 1 = c := by
  rcases (invS_iff.1 hI).cpu c h0 h1 with h2 | h2
  · exact absurd h2 h
  · exact h2
theorem vis_count (A R : Tab) (x : Int) : ∀ n : Nat, (vis A R n).count x = ((List.range n).flatMap fun (c : Nat) => run1 R c).count x + ((List.range n).flatMap fun (c : Nat) => rowL A c).count x
  | 0 => rfl
  | n + 1 => by
    have := vis_count A R x n
    rw [vis_next, List.range_succ, List.flatMap_append, List.flatMap_append]
    simp only [List.count_append, List.flatMap_cons, List.flatMap_nil, List.append_nil]
    omega
theorem rows_flat (A : Tab) : ((List.range A.length).flatMap fun (c : Nat) => rowL A c) = A.flatten := by
  rw [List.flatMap_def]
  congr 1
  apply List.ext_getElem
  · simp
  · intro n h1 h2
    rw [List.getElem_map, List.getElem_range]
    show A.getD ((n : Nat) : Int).toNat [] = A[n]
    rw [Int.toNat_natCast, List.getD_eq_getElem?_getD, List.getElem?_eq_getElem h2]; rfl
theorem runs_count (hI : Inv O A R) (h0 : 0 ≤ i) (h1 : i < O.length) : ∀ n : Nat, n ≤ R.length → ((List.range n).flatMap fun (c : Nat) => run1 R c).count i = if cel O i 0 = 2 ∧ cel O i 1 < n then 1 else 0
  | 0, _ => by
    have : ¬ (cel O i 0 = 2 ∧ cel O i 1 < (0 : Nat)) := fun ⟨a, b⟩ => by
      have := ((hI.row i h0 h1).runs a).1
      omega
    rw [if_neg this]; rfl
  | n + 1, hn => by
    have ih := runs_count hI h0 h1 n (by omega)
    rw [List.range_succ, List.flatMap_append, List.count_append, ih]
    simp only [List.flatMap_cons, List.flatMap_nil, List.append_nil]
    unfold run1
    rcases hI.cpu (n : Int) (by omega) (by omega) with e | ⟨s1, s2, s3, s4⟩
    · rw [if_pos e]
      have hne : cel O i 0 = 2 → ¬ cel O i 1 = n := fun a b => by
        have := ((hI.row i h0 h1).runs a).2.2
        rw [b, e] at this
        omega
      by_cases a : cel O i 0 = 2
      · have := hne a
        by_cases b : cel O i 1 < n
        · rw [if_pos ⟨a, b⟩, if_pos ⟨a, by omega⟩]; rfl
        · rw [if_neg (fun x => b x.2), if_neg (fun x => by omega)]; rfl
      · rw [if_neg (fun x => a x.1), if_neg (fun x => a x.1)]; rfl
    · have e : ¬ cel R n 0 = -1 := by omega
      rw [if_neg e]
      by_cases a : cel R n 0 = i
      · have c1 : List.count i [cel R n 0] = 1 := by rw [a]; simp
        rw [a] at s3 s4
        rw [c1, if_neg (fun x => by omega), if_pos ⟨s3, by omega⟩]
      · have c0 : List.count i [cel R n 0] = 0 := by rw [List.count_eq_zero]; simpa using fun h => a h.symm
        have hne : cel O i 0 = 2 → ¬ cel O i 1 = n := fun p q => by
          have := ((hI.row i h0 h1).runs p).2.2
          rw [q] at this
          exact a this
        rw [c0]
        by_cases p : cel O i 0 = 2
        · have := hne p
          by_cases q : cel O i 1 < n
          · rw [if_pos ⟨p, q⟩, if_pos ⟨p, by omega⟩]
          · rw [if_neg (fun x => q x.2), if_neg (fun x => by omega)]
        · rw [if_neg (fun x => p x.1), if_neg (fun x => p x.1)]
/-- EACH ONE IS WHERE IT MUST BE, once. -/
theorem places (hI : invS O A R = true) (hQ : invB A M 64 = true) (hl : (R.length : Int) = A.length) (hP : plB A R P A.length (-1) = true) (h0 : 0 ≤ i) (h1 : i < O.length) (h2 : i < P.length) :
    ((cel O i 0 = 1 ∨ cel O i 0 = 2) ∧ cel P i 0 = 1) ∨ (¬ cel O i 0 = 1 ∧ ¬ cel O i 0 = 2 ∧ cel P i 0 = 0) := by
  have h := invS_iff.1 hI
  have e := pl_iff.1 hP i h0 h2
  have ev : visK A R A.length (-1) = vis A R A.length := by unfold visK; simp
  rw [ev, vis_count, rows_flat, runs_count h h0 h1 A.length (by omega)] at e
  have hn := inv_nodup hQ
  by_cases s1 : cel O i 0 = 1
  · have hm : i ∈ A.flatten := (h.ids i).2 ⟨h0, h1, s1⟩
    have hc : A.flatten.count i = 1 := by rw [hn.count]; simp only [hm, if_true]
    rw [if_neg (fun x => by omega), hc] at e
    exact .inl ⟨.inl s1, by omega⟩
  · have hm : ¬ i ∈ A.flatten := fun x => s1 ((h.ids i).1 x).2.2
    have hc : A.flatten.count i = 0 := List.count_eq_zero.2 hm
    by_cases s2 : cel O i 0 = 2
    · have := (h.row i h0 h1).runs s2
      rw [if_pos ⟨s2, by omega⟩, hc] at e
      exact .inl ⟨.inr s2, by omega⟩
    · rw [if_neg (fun x => s2 x.1), hc] at e
      exact .inr ⟨s1, s2, by omega⟩
theorem invS_nil (n : Nat) : invS [] (List.replicate n []) (List.replicate n [-1]) = true := by
  rw [invS_iff]
  refine ⟨fun i h0 h1 => ?_, fun c c0 c1 => ?_, fun x => ?_⟩
  · simp at h1; omega
  · rw [List.length_replicate] at c1
    left
    simp only [cel, List.getD_eq_getElem?_getD, List.getElem?_replicate]
    rw [if_pos (by omega)]; rfl
  · constructor
    · intro h
      obtain ⟨l, hl, hx⟩ := List.mem_flatten.1 h
      rw [(List.mem_replicate.1 hl).2] at hx
      cases hx
    · rintro ⟨h0, h1, _⟩
      simp at h1; omega
end
end Go.SF.C21
