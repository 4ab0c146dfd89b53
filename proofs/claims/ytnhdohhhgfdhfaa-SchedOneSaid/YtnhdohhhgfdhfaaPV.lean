/- Where all are ready or run: what a Dispatch and a Yield leave; turns; in plain Lean. -/
import Derived.Test.YtnhdohhhgfdhfaaP2
import Derived.Test.YtnhdohhhgfdhfaaPQ4
namespace Go.SF.C21
open Go.SF Go.SF.C17
set_option linter.unusedVariables false

variable {O A R : Tab} {i j c x s on : Int}
theorem range_all {n : Nat} {p : Int → Bool} : ((List.range n).all fun (k : Nat) => p k) = true ↔ ∀ k : Int, 0 ≤ k → k < n → p k = true := by
  rw [List.all_eq_true]
  constructor
  · intro h k h0 h1
    have := h k.toNat (List.mem_range.2 (by omega))
    rwa [show ((k.toNat : Nat) : Int) = k by omega] at this
  · intro h k hk
    exact h k (by omega) (by have := List.mem_range.1 hk; omega)
structure One (O R : Tab) (i : Int) : Prop where
  w : cel O i 2 = 0
  h : cel O i 3 = 0
  c : cel O i 8 = 0
  s : (cel O i 0 = 1 ∧ cel O i 1 = -1) ∨ (cel O i 0 = 2 ∧ 0 ≤ cel O i 1 ∧ cel O i 1 < R.length ∧ cel R (cel O i 1) 0 = i)
structure Serv (O A R : Tab) : Prop where
  one : ∀ i : Int, 0 ≤ i → i < O.length → One O R i
  cpu : ∀ c : Int, 0 ≤ c → c < R.length → cel R c 0 = -1 ∨ (0 ≤ cel R c 0 ∧ cel R c 0 < O.length ∧ cel O (cel R c 0) 0 = 2 ∧ cel O (cel R c 0) 1 = c)
  ids : ∀ x ∈ A.flatten, 0 ≤ x ∧ x < O.length ∧ cel O x 0 = 1
theorem one_iff : oneOK O R i = true ↔ One O R i := by
  unfold oneOK
  simp only [Bool.and_eq_true, Bool.or_eq_true, decide_eq_true_eq]
  exact ⟨fun h => ⟨h.1.1.1, h.1.1.2, h.1.2, h.2⟩, fun h => ⟨⟨⟨h.w, h.h⟩, h.c⟩, h.s⟩⟩
theorem serv_iff : servB O A R = true ↔ Serv O A R := by
  unfold servB
  rw [Bool.and_eq_true, Bool.and_eq_true, range_all, range_all, List.all_eq_true]
  constructor
  · rintro ⟨⟨h1, h2⟩, h3⟩
    exact ⟨fun i h0 hl => one_iff.1 (h1 i h0 hl), fun c h0 hl => by have := h2 c h0 hl; unfold cpuOK at this; simpa using this, fun x hx => by have := h3 x hx; unfold idOK at this; simpa using this⟩
  · rintro ⟨h1, h2, h3⟩
    exact ⟨⟨fun i h0 hl => one_iff.2 (h1 i h0 hl), fun c h0 hl => by have := h2 c h0 hl; unfold cpuOK; simpa using this⟩, fun x hx => by have := h3 x hx; unfold idOK; simpa using this⟩
/-! ### tables changed at one place -/
theorem on_len (O : Tab) (i s on : Int) : (setOn O i s on).length = O.length := List.length_modify ..
theorem on_at (h0 : 0 ≤ i) (h1 : i < O.length) (hr : ∀ r ∈ O, r.length = 10) : cel (setOn O i s on) i 0 = s ∧ cel (setOn O i s on) i 1 = on ∧ ∀ j, 2 ≤ j → cel (setOn O i s on) i j = cel O i j := by
  have hk : i.toNat < O.length := by omega
  have hl := hr O[i.toNat] (List.getElem_mem ..)
  have e : (setOn O i s on).getD i.toNat [] = (O[i.toNat].set 0 s).set 1 on := by
    unfold setOn
    simp [List.getD, hk]
  have e' : O.getD i.toNat [] = O[i.toNat] := by simp [List.getD, hk]
  unfold cel
  rw [e, e']
  generalize O[i.toNat] = r at *
  match r, hl with
  | [a, b, _, _, _, _, _, _, _, _], _ =>
    refine ⟨rfl, rfl, fun j hj => ?_⟩
    match j, hj with
    | j + 2, _ => rfl
theorem on_ne (h0 : 0 ≤ i) (h0' : 0 ≤ j) (h : ¬ i = j) (k : Nat) : cel (setOn O i s on) j k = cel O j k := by
  have hne : ¬ i.toNat = j.toNat := by omega
  unfold cel setOn
  simp only [List.getD_eq_getElem?_getD, List.getElem?_modify, if_neg hne]
  cases O[j.toNat]? <;> rfl
theorem r_at (h0 : 0 ≤ c) (h1 : c < R.length) (hr : ∀ r ∈ R, r.length = 1) : cel (R.modify c.toNat fun row => row.set (Int.toNat 0) x) c 0 = x := by
  have hk : c.toNat < R.length := by omega
  have hl := hr R[c.toNat] (List.getElem_mem ..)
  unfold cel
  simp only [List.getD_eq_getElem?_getD, List.getElem?_modify, List.getElem?_eq_getElem hk, if_true, Option.map_some, Option.getD_some]
  generalize R[c.toNat] = r at *
  match r, hl with
  | [a], _ => rfl
theorem r_ne (h0 : 0 ≤ c) (h0' : 0 ≤ j) (h : ¬ c = j) (k : Nat) : cel (R.modify c.toNat fun row => row.set (Int.toNat 0) x) j k = cel R j k := by
  have hne : ¬ c.toNat = j.toNat := by omega
  unfold cel
  simp only [List.getD_eq_getElem?_getD, List.getElem?_modify, if_neg hne]
  cases R[j.toNat]? <;> rfl
/-- One is picked. -/
theorem serv_pick (h : Serv O A R) (hO : ∀ r ∈ O, r.length = 10) (hR : ∀ r ∈ R, r.length = 1) (hc : 0 ≤ c) (hc' : c < R.length) (he : cel R c 0 = -1) {A' : Tab} (hp : A.flatten.Perm (x :: A'.flatten)) (hn : A.flatten.Nodup) :
    Serv (setOn O x 2 c) A' (R.modify c.toNat fun row => row.set (Int.toNat 0) x) := by
  have hx := h.ids x (hp.mem_iff.2 (List.mem_cons_self ..))
  have hnd := List.nodup_cons.1 (hp.nodup_iff.1 hn)
  obtain ⟨o1, o2, o3⟩ := on_at (s := 2) (on := c) hx.1 hx.2.1 hO
  refine ⟨fun i h0 hl => ?_, fun d h0 hl => ?_, fun y hy => ?_⟩
  · rw [on_len] at hl
    have hi := h.one i h0 hl
    by_cases e : x = i
    · subst e
      exact ⟨by rw [o3 2 (by decide)]; exact hi.w, by rw [o3 3 (by decide)]; exact hi.h, by rw [o3 8 (by decide)]; exact hi.c,
        .inr ⟨o1, by rw [o2]; exact hc, by rw [o2, List.length_modify]; exact hc', by rw [o2]; exact r_at hc hc' hR⟩⟩
    · have q := fun k => on_ne (O := O) (s := 2) (on := c) hx.1 h0 e k
      refine ⟨by rw [q]; exact hi.w, by rw [q]; exact hi.h, by rw [q]; exact hi.c, ?_⟩
      rw [q 0, q 1, List.length_modify]
      rcases hi.s with s | ⟨s1, s2, s3, s4⟩
      · exact .inl s
      · refine .inr ⟨s1, s2, s3, ?_⟩
        rw [r_ne hc s2 (fun e2 => by rw [← e2, he] at s4; omega)]
        exact s4
  · rw [List.length_modify] at hl
    by_cases e : c = d
    · subst e
      right
      rw [r_at hc hc' hR, on_len]
      exact ⟨hx.1, hx.2.1, o1, o2⟩
    · rw [r_ne hc h0 e]
      rcases h.cpu d h0 hl with s | ⟨s1, s2, s3, s4⟩
      · exact .inl s
      · right
        have hne : ¬ x = cel R d 0 := fun e2 => by rw [← e2, hx.2.2] at s3; omega
        rw [on_len, on_ne hx.1 s1 hne, on_ne hx.1 s1 hne]
        exact ⟨s1, s2, s3, s4⟩
  · have hy' := h.ids y (hp.mem_iff.2 (List.mem_cons_of_mem _ hy))
    have hne : ¬ x = y := fun e => hnd.1 (e ▸ hy)
    rw [on_len, on_ne hx.1 hy'.1 hne]
    exact hy'
/-- One yields. -/
theorem serv_yield (h : Serv O A R) (hO : ∀ r ∈ O, r.length = 10) (hR : ∀ r ∈ R, r.length = 1) (hc : 0 ≤ c) (hc' : c < R.length) (he : ¬ cel R c 0 = -1) {A' : Tab} (hp : A'.flatten.Perm (cel R c 0 :: A.flatten)) :
    Serv (setOn O (cel R c 0) 1 (-1)) A' (R.modify c.toNat fun row => row.set (Int.toNat 0) (-1)) ∧ cel R c 0 ∉ A.flatten := by
  obtain ⟨x0, x1, x2, x3⟩ := (h.cpu c hc hc').resolve_left he
  have hni : cel R c 0 ∉ A.flatten := fun hm => by have := (h.ids _ hm).2.2; omega
  refine ⟨?_, hni⟩
  generalize hx : cel R c 0 = x at *
  obtain ⟨o1, o2, o3⟩ := on_at (s := 1) (on := -1) x0 x1 hO
  refine ⟨fun i h0 hl => ?_, fun d h0 hl => ?_, fun y hy => ?_⟩
  · rw [on_len] at hl
    have hi := h.one i h0 hl
    by_cases e : x = i
    · subst e
      exact ⟨by rw [o3 2 (by decide)]; exact hi.w, by rw [o3 3 (by decide)]; exact hi.h, by rw [o3 8 (by decide)]; exact hi.c, .inl ⟨o1, o2⟩⟩
    · have q := fun k => on_ne (O := O) (s := 1) (on := -1) x0 h0 e k
      refine ⟨by rw [q]; exact hi.w, by rw [q]; exact hi.h, by rw [q]; exact hi.c, ?_⟩
      rw [q 0, q 1, List.length_modify]
      rcases hi.s with s | ⟨s1, s2, s3, s4⟩
      · exact .inl s
      · refine .inr ⟨s1, s2, s3, ?_⟩
        rw [r_ne hc s2 (fun e2 => e (by rw [← hx, e2, s4]))]
        exact s4
  · rw [List.length_modify] at hl
    by_cases e : c = d
    · subst e
      left
      exact r_at hc hc' hR
    · rw [r_ne hc h0 e]
      rcases h.cpu d h0 hl with s | ⟨s1, s2, s3, s4⟩
      · exact .inl s
      · right
        have hne : ¬ x = cel R d 0 := fun e2 => e (by rw [← x3, ← s4, e2])
        rw [on_len, on_ne x0 s1 hne, on_ne x0 s1 hne]
        exact ⟨s1, s2, s3, s4⟩
  · rcases List.mem_cons.1 (hp.mem_iff.1 hy) with rfl | hy
    · rw [on_len]; exact ⟨x0, x1, o1⟩
    · have hy' := h.ids y hy
      have hne : ¬ x = y := fun e => hni (e ▸ hy)
      rw [on_len, on_ne x0 hy'.1 hne]
      exact hy'
end Go.SF.C21
namespace Go.SF.C21
open Go.SF Go.SF.C17
set_option linter.unusedVariables false

variable {O A R : Tab} {i j c x s on : Int}
theorem mod_mod (A : Tab) (k : Nat) (f g : List Int → List Int) : (A.modify k f).modify k g = A.modify k (fun r => g (f r)) := by
  apply List.ext_getElem?
  intro j
  simp only [List.getElem?_modify]
  split <;> cases A[j]? <;> rfl
theorem mod_same {f g : List Int → List Int} {k : Nat} (h : ∀ r, A[k]? = some r → f r = g r) : A.modify k f = A.modify k g := by
  apply List.ext_getElem?
  intro j
  simp only [List.getElem?_modify]
  split
  · rename_i e; subst e
    cases hr : A[k]? with
    | none => rfl
    | some r => simp [h r hr]
  · rfl
theorem set9 (h0 : 0 ≤ i) (h1 : i < O.length) (hO : ∀ r ∈ O, r.length = 10) (h2 : cel O i 2 = 0) (h3 : cel O i 3 = 0) (h8 : cel O i 8 = 0) :
    ((((((((O.modify i.toNat fun r => r.set (Int.toNat 0) s).modify i.toNat fun r => r.set (Int.toNat 1) on).modify i.toNat fun r => r.set (Int.toNat 2) 0).modify i.toNat fun r => r.set (Int.toNat 3) 0).modify i.toNat fun r => r.set (Int.toNat 4) (cel O i 4)).modify i.toNat
      fun r => r.set (Int.toNat 5) (cel O i 5)).modify i.toNat fun r => r.set (Int.toNat 6) (cel O i 6)).modify i.toNat fun r => r.set (Int.toNat 7) (cel O i 7)).modify i.toNat (fun r => r.set (Int.toNat 8) 0) = setOn O i s on := by
  unfold setOn
  simp only [mod_mod]
  have hk : i.toNat < O.length := by omega
  refine mod_same fun r hr => ?_
  have hm : r ∈ O := List.mem_of_getElem? hr
  have e : O.getD i.toNat [] = r := by simp [List.getD, hr]
  unfold cel at *
  rw [e] at h2 h3 h8
  simp only [e]
  have hl := hO r hm
  match r, hl with
  | [a, b, c, d, e, f, g, k, l, m], _ =>
    have h2 : c = 0 := h2
    have h3 : d = 0 := h3
    have h8 : l = 0 := h8
    subst h2; subst h3; subst h8
    rfl
theorem nodup_len : ∀ (n : Nat) (L : List Int), L.Nodup → (∀ x ∈ L, 0 ≤ x ∧ x < n) → L.length ≤ n
  | 0, L, _, h => by
    match L with
    | [] => exact Nat.le_refl _
    | x :: _ => have := h x (List.mem_cons_self ..); omega
  | n + 1, L, hn, h => by
    by_cases hm : (n : Int) ∈ L
    · have := nodup_len n (L.erase n) (hn.erase _) fun x hx => by
        have h1 := h x (List.mem_of_mem_erase hx)
        have h2 : ¬ x = n := fun e => by subst e; exact (List.Nodup.not_mem_erase hn) hx
        omega
      rw [List.length_erase_of_mem hm] at this
      omega
    · have := nodup_len n L hn fun x hx => by
        have h1 := h x hx
        have h2 : ¬ x = n := fun e => by subst e; exact hm hx
        omega
      omega
theorem serv_len (h : Serv O A R) (hn : A.flatten.Nodup) (h0 : 0 ≤ c) (h1 : c < A.length) : lenR A c ≤ O.length := by
  have h2 := nodup_len O.length A.flatten hn fun x hx => ⟨(h.ids x hx).1, (h.ids x hx).2.1⟩
  have h3 : (rowL A c).length ≤ A.flatten.length := by
    have hm := rowL_mem h0 h1
    exact (List.sublist_flatten_of_mem hm).length_le
  unfold lenR; omega
end Go.SF.C21
namespace Go.SF.C21
open Go.SF Go.SF.C17
set_option linter.unusedVariables false

variable {O A R N : Tab} {i j c x s on k : Int}
theorem pop_len (A : Tab) (c : Int) : (popT A c).length = A.length := cutT_len ..
theorem d_yes (h0 : 0 ≤ c) (h1 : c < A.length) (ha : anyB A = true) : dAll A R N c = dAll (popT A c) (R.modify c.toNat fun row => row.set (Int.toNat 0) (popX A c))
    (N.modify (popX A c).toNat fun row => row.set (Int.toNat 0) (IntKind.i64.wrap ((N.getD (popX A c).toNat []).getD 0 0 + 1))) (c + 1) := by
  unfold dAll
  rw [pop_len, show A.length - c.toNat = (A.length - (c + 1).toNat) + 1 by omega, dGo, if_pos ha]; rfl
theorem d_no (h0 : 0 ≤ c) (h1 : c < A.length) (ha : anyB A = false) : dAll A R N c = dAll A R N (c + 1) := by
  unfold dAll
  rw [show A.length - c.toNat = (A.length - (c + 1).toNat) + 1 by omega, dGo, if_neg (by rw [ha]; exact Bool.false_ne_true)]
theorem d_end (h1 : ¬ c < A.length) : dAll A R N c = (A, R, N) := by
  unfold dAll
  rw [show A.length - c.toNat = 0 by omega, dGo]
theorem l_yes (h0 : 0 ≤ c) (h1 : c < A.length) (ha : ¬ (R.getD c.toNat []).getD 0 0 = -1) : lAll A R c = lAll (layT A c ((R.getD c.toNat []).getD 0 0)) (R.modify c.toNat fun row => row.set (Int.toNat 0) (-1)) (c + 1) := by
  unfold lAll
  rw [layT_len, show A.length - c.toNat = (A.length - (c + 1).toNat) + 1 by omega, lGo, if_neg ha]; rfl
theorem l_no (h0 : 0 ≤ c) (h1 : c < A.length) (ha : (R.getD c.toNat []).getD 0 0 = -1) : lAll A R c = lAll A R (c + 1) := by
  unfold lAll
  rw [show A.length - c.toNat = (A.length - (c + 1).toNat) + 1 by omega, lGo, if_pos ha]
theorem l_end (h1 : ¬ c < A.length) : lAll A R c = (A, R) := by
  unfold lAll
  rw [show A.length - c.toNat = 0 by omega, lGo]
theorem idle_at (h : idleF R c = true) (h0 : 0 ≤ c) (h1 : c < R.length) : (R.getD c.toNat []).getD 0 0 = -1 ∧ idleF R (c + 1) = true := by
  unfold idleF at *
  have hk : c.toNat < R.length := by omega
  rw [List.drop_eq_getElem_cons hk, List.all_cons, Bool.and_eq_true, decide_eq_true_eq] at h
  refine ⟨by simpa [List.getD, hk] using h.1, ?_⟩
  rw [show (c + 1).toNat = c.toNat + 1 by omega]; exact h.2
theorem idle_set (h : idleF R (c + 1) = true) (h0 : 0 ≤ c) : idleF (R.modify c.toNat fun row => row.set (Int.toNat 0) x) (c + 1) = true := by
  unfold idleF at *
  rw [show (c + 1).toNat = c.toNat + 1 by omega] at *
  have e : (R.modify c.toNat fun row => row.set (Int.toNat 0) x).drop (c.toNat + 1) = R.drop (c.toNat + 1) := by
    apply List.ext_getElem?
    intro j
    have hne : ¬ c.toNat = c.toNat + 1 + j := by omega
    simp only [List.getElem?_drop, List.getElem?_modify, if_neg hne]
    cases R[c.toNat + 1 + j]? <;> rfl
  rw [e]; exact h
/-- Behind a round of yields nobody runs. -/
theorem l_idle : ∀ (k : Nat) (c : Int) (A R : Tab), 0 ≤ c → (∀ r ∈ R, r.length = 1) → R.length = c.toNat + k → (∀ j : Int, 0 ≤ j → j < c → (R.getD j.toNat []).getD 0 0 = -1) →
    ∀ j : Int, 0 ≤ j → j < R.length → (((lGo k c (A, R)).2).getD j.toNat []).getD 0 0 = -1
  | 0, c, A, R, h0, hr, hl, h, j, j0, j1 => by
    rw [lGo]; exact h j j0 (by omega)
  | k + 1, c, A, R, h0, hr, hl, h, j, j0, j1 => by
    rw [lGo]
    have hc1 : (c + 1).toNat = c.toNat + 1 := by omega
    split
    · rename_i e
      refine l_idle k (c + 1) A R (by omega) hr (by omega) (fun j j0 j1 => ?_) j j0 j1
      by_cases ej : j = c
      · subst ej; exact e
      · exact h j j0 (by omega)
    · have hl2 : (setC R c (-1)).length = R.length := List.length_modify ..
      refine l_idle k (c + 1) _ (setC R c (-1)) (by omega) (fun r hm => ?_) (by omega) (fun j j0 j1 => ?_) j j0 (by omega)
      · unfold setC at hm
        obtain ⟨n, hn, rfl⟩ := List.getElem_of_mem hm
        rw [List.getElem_modify]
        have := hr R[n] (List.getElem_mem (by simpa using hn))
        split <;> simp [this]
      · by_cases ej : c = j
        · subst ej; exact r_at h0 (by omega) hr
        · have := r_ne (R := R) (x := -1) h0 j0 ej 0
          exact this.trans (h j j0 (by omega))
theorem idle_of (h : ∀ j : Int, 0 ≤ j → j < R.length → (R.getD j.toNat []).getD 0 0 = -1) : idleF R 0 = true := by
  unfold idleF
  rw [show (0 : Int).toNat = 0 from rfl, List.drop_zero]
  refine List.all_eq_true.2 fun r hr => ?_
  obtain ⟨n, hn, rfl⟩ := List.getElem_of_mem hr
  have := h n (by omega) (by omega)
  simp [List.getD, hn] at this
  simpa using this
theorem l_all_idle (hr : ∀ r ∈ R, r.length = 1) (hl : (R.length : Int) = A.length) : idleF (lAll A R 0).2 0 = true := by
  have hlen : ∀ (k : Nat) (c : Int) (A R : Tab), (lGo k c (A, R)).2.length = R.length := by
    intro k
    induction k with
    | zero => intro c A R; rfl
    | succ k ih =>
      intro c A R
      rw [lGo]
      split
      · exact ih ..
      · rw [ih]; exact List.length_modify ..
  refine idle_of fun j j0 j1 => ?_
  unfold lAll at *
  rw [hlen] at j1
  exact l_idle _ 0 A R (by decide) hr (by rw [show (0 : Int).toNat = 0 from rfl]; omega) (fun j j0 j1 => by omega) j j0 j1
theorem t_step (h0 : 0 ≤ k) (s : Tab3) : turns (k + 1).toNat s = turns k.toNat (turn s) := by
  rw [show (k + 1).toNat = k.toNat + 1 by omega, turns]
end Go.SF.C21
namespace Go.SF.C21
open Go.SF Go.SF.C17
set_option linter.unusedVariables false

variable {O A R N : Tab} {i j c x s on k v : Int}
abbrev newV (v : Int) : List Int := [0, -1, 0, 0, 0, 0, 0, 0, 0, v]
theorem cat_old (h0 : 0 ≤ i) (h1 : i < O.length) (j : Nat) : cel (O ++ [newV v]) i j = cel O i j := by
  unfold cel
  rw [show (O ++ [newV v]).getD i.toNat [] = O.getD i.toNat [] by simp [List.getD, List.getElem?_append_left (show i.toNat < O.length by omega)]]
theorem cat_new (j : Nat) : cel (O ++ [newV v]) O.length j = (newV v).getD j 0 := by
  unfold cel
  rw [show (O ++ [newV v]).getD (O.length : Int).toNat [] = newV v by simp [List.getD]]
theorem serv_add (h : Serv O A R) (hO : ∀ r ∈ O, r.length = 10) {A' : Tab} (hp : A'.flatten.Perm ((O.length : Int) :: A.flatten)) :
    Serv (setOn (O ++ [newV v]) O.length 1 (-1)) A' R ∧ (O.length : Int) ∉ A.flatten := by
  have hni : (O.length : Int) ∉ A.flatten := fun hm => by have := (h.ids _ hm).2.1; omega
  refine ⟨?_, hni⟩
  have hl : (O ++ [newV v]).length = O.length + 1 := by simp
  have hO2 : ∀ r ∈ O ++ [newV v], r.length = 10 := by
    intro r hr
    rcases List.mem_append.1 hr with hr | hr
    · exact hO r hr
    · rw [List.mem_singleton.1 hr]; rfl
  obtain ⟨o1, o2, o3⟩ := on_at (O := O ++ [newV v]) (i := O.length) (s := 1) (on := -1) (by omega) (by omega) hO2
  have old : ∀ j : Int, 0 ≤ j → j < O.length → ∀ q, cel (setOn (O ++ [newV v]) O.length 1 (-1)) j q = cel O j q := fun j j0 j1 q => by
    rw [on_ne (by omega) j0 (by omega), cat_old j0 j1]
  refine ⟨fun i h0 h1 => ?_, fun d h0 h1 => ?_, fun y hy => ?_⟩
  · rw [on_len, hl] at h1
    by_cases e : i = O.length
    · subst e
      exact ⟨by rw [o3 2 (by decide), cat_new]; rfl, by rw [o3 3 (by decide), cat_new]; rfl, by rw [o3 8 (by decide), cat_new]; rfl, .inl ⟨o1, o2⟩⟩
    · have q := old i h0 (by omega)
      have hi := h.one i h0 (by omega)
      refine ⟨by rw [q]; exact hi.w, by rw [q]; exact hi.h, by rw [q]; exact hi.c, ?_⟩
      rw [q 0, q 1]; exact hi.s
  · rcases h.cpu d h0 h1 with s | ⟨s1, s2, s3, s4⟩
    · exact .inl s
    · right
      rw [on_len, hl, old _ s1 s2, old _ s1 s2]
      exact ⟨s1, by omega, s3, s4⟩
  · rcases List.mem_cons.1 (hp.mem_iff.1 hy) with rfl | hy
    · rw [on_len, hl]; exact ⟨by omega, by omega, o1⟩
    · have hy' := h.ids y hy
      rw [on_len, hl, old _ hy'.1 hy'.2.1]
      exact ⟨hy'.1, by omega, hy'.2.2⟩
theorem beg_step (h0 : 0 ≤ i) (h1 : i < k) : begQ (k - i).toNat i A = begQ (k - (i + 1)).toNat (i + 1) (layT A (i.tmod A.length) i) := by
  rw [show (k - i).toNat = (k - (i + 1)).toNat + 1 by omega, begQ]
theorem beg_end (h1 : ¬ i < k) : begQ (k - i).toNat i A = A := by
  rw [show (k - i).toNat = 0 by omega, begQ]
theorem t_more (h0 : 0 ≤ k) : turns (k + 1).toNat (A, R, N) = turns k.toNat ((lAll (dAll A R N 0).1 (dAll A R N 0).2.1 0).1, (lAll (dAll A R N 0).1 (dAll A R N 0).2.1 0).2, (dAll A R N 0).2.2) := t_step h0 _
theorem ran_at (h : ranF N i = true) (h0 : 0 ≤ i) (h1 : i < N.length) : ¬ (N.getD i.toNat []).getD 0 0 = 0 ∧ ranF N (i + 1) = true := by
  unfold ranF at *
  have hk : i.toNat < N.length := by omega
  rw [List.drop_eq_getElem_cons hk, List.all_cons, Bool.and_eq_true, Bool.not_eq_true', decide_eq_false_iff_not] at h
  refine ⟨by simpa [List.getD, hk] using h.1, ?_⟩
  rw [show (i + 1).toNat = i.toNat + 1 by omega]; exact h.2
theorem idle_rep (n : Nat) : idleF (List.replicate n [-1]) 0 = true := by
  unfold idleF
  rw [show (0 : Int).toNat = 0 from rfl, List.drop_zero]
  exact List.all_eq_true.2 fun r hr => by rw [(List.mem_replicate.1 hr).2]; rfl
theorem serv_nil (n : Nat) : servB [] (List.replicate n []) (List.replicate n [-1]) = true := by
  rw [serv_iff]
  refine ⟨fun i h0 h1 => ?_, fun c h0 h1 => ?_, fun x hx => ?_⟩
  · simp at h1; omega
  · left
    have hk : c.toNat < (List.replicate n [(-1 : Int)]).length := by omega
    unfold cel
    rw [show (List.replicate n [(-1 : Int)]).getD c.toNat [] = [-1] by simp [List.getD] at hk ⊢; simp [hk]]; rfl
  · simp at hx
theorem set_rows (hr : ∀ r ∈ R, r.length = 1) : ∀ r ∈ setC R c x, r.length = 1 := by
  intro r hm
  unfold setC at hm
  obtain ⟨n, hn, rfl⟩ := List.getElem_of_mem hm
  have hn' : n < R.length := by simpa using hn
  rw [List.getElem_modify]
  have := hr R[n] (List.getElem_mem hn')
  split <;> simp [this]
theorem d_rows : ∀ (k : Nat) (c : Int) (A R N : Tab), (∀ r ∈ R, r.length = 1) → ∀ r ∈ (dGo k c (A, R, N)).2.1, r.length = 1
  | 0, c, A, R, N, hr => hr
  | k + 1, c, A, R, N, hr => by
    rw [dGo]
    split
    · exact d_rows k _ _ _ _ (set_rows hr)
    · exact d_rows k _ _ _ _ hr
end Go.SF.C21
