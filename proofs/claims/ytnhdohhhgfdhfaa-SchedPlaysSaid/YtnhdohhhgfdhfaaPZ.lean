/- What an event makes of all, as the document tells it, in plain Lean. What the law that all is as the document says needs, in plain Lean. -/
import Derived.Test.YtnhdohhhgfdhfaaPM
import Derived.Test.YtnhdohhhgfdhfaaPR
import Derived.Test.YtnhdohhhgfdhfaaPT7
namespace Go.SF.C21
open Go.SF Go.SF.C17
set_option linter.unusedVariables false
variable {O A R B L C D : Tab} {i ev cpu home c x t q : Int}

abbrev nc (O : Tab) (i ev cpu : Int) (j : Nat) : Int := cel (nxT O i ev cpu) 0 j
theorem ev_cell (hb : nxB O i ev cpu = true) (hO : ∀ row ∈ O, row.length = 10) (h0 : 0 ≤ i) (h1 : i < O.length) : cel (evO O i ev cpu) i 0 = nc O i ev cpu 0 ∧ cel (evO O i ev cpu) i 1 = nc O i ev cpu 1 := by
  rw [ev_yes hb]
  have := put4_at (a := cel (nxT O i ev cpu) 0 0) (b := cel (nxT O i ev cpu) 0 1) (c := cel (nxT O i ev cpu) 0 2) (d := cel (nxT O i ev cpu) 0 3) hO h0 h1
  exact ⟨this.1, this.2.1⟩
theorem evL_same (h : nc O i ev cpu 0 = cel O i 0) : evL O L i ev cpu = L := by
  have hc : ¬ evC O i ev cpu = true := by unfold evC; rw [decide_eq_true h]; simp
  exact if_neg hc
theorem evL_chg (h : nxB O i ev cpu = true) (h' : ¬ nc O i ev cpu 0 = cel O i 0) : evL O L i ev cpu = enL (evO O i ev cpu) L i := by
  have hc : evC O i ev cpu = true := by unfold evC; rw [h, decide_eq_false h']; rfl
  exact if_pos hc
theorem evL_no (h : nxB O i ev cpu = false) : evL O L i ev cpu = L := by
  have hc : ¬ evC O i ev cpu = true := by unfold evC; rw [h]; simp
  exact if_neg hc
/-- All that an event changes, by the states ahead and behind. -/
theorem ev_all (hb : nxB O i ev cpu = true) (hO : ∀ row ∈ O, row.length = 10) (h0 : 0 ≤ i) (h1 : i < O.length) (hs : ¬ nc O i ev cpu 0 = cel O i 0) :
    evA O A i ev cpu home = (if nc O i ev cpu 0 = 1 then pushT A home i 64 else if cel O i 0 = 1 then dropT A i else A) ∧
    evR O R i ev cpu = (if nc O i ev cpu 0 = 2 then setC R (nc O i ev cpu 1) i else if cel O i 0 = 2 then setC R (cel O i 1) (-1) else R) ∧
    evL O L i ev cpu = (if nc O i ev cpu 0 = 5 then C18.disL L i else L) := by
  obtain ⟨e0, e1⟩ := ev_cell hb hO h0 h1
  obtain ⟨v1, v2, _⟩ := ev_chg (A := A) (B := []) (R := R) (home := home) hb hs
  rw [v1, v2, evL_chg hb hs]
  unfold enA enR enL lvA lvR
  rw [e0, e1]
  refine ⟨?_, ?_, rfl⟩
  · by_cases g : nc O i ev cpu 0 = 1
    · rw [if_pos g, if_pos g, if_neg (by omega)]
    · rw [if_neg g, if_neg g]
  · by_cases g : nc O i ev cpu 0 = 2
    · rw [if_pos g, if_pos g, if_neg (by omega)]
    · rw [if_neg g, if_neg g]
theorem setC_same (h : cel R c 0 = x) (hR : ∀ row ∈ R, row.length = 1) : setC R c x = R := by
  refine List.ext_getElem? fun k => ?_
  unfold setC
  rw [List.getElem?_modify]
  by_cases hk : c.toNat = k
  · subst hk
    cases hr : R[c.toNat]? with
    | none => simp
    | some r =>
      have hm := hR r (List.mem_of_getElem? hr)
      match r, hm, hr with
      | [y], _, hr =>
        have e : R.getD c.toNat [] = [y] := by rw [List.getD_eq_getElem?_getD, hr]; rfl
        unfold cel at h
        rw [e] at h
        have h : y = x := h
        subst h
        simp
  · simp [hk]
theorem nx_on (hb : nxB O i ev cpu = true) (h2 : cel O i 0 = 2) (h : nc O i ev cpu 0 = 2) : nc O i ev cpu 1 = cel O i 1 := by
  unfold nxB at hb
  unfold nc nxT at *
  cases e : nxO O i ev cpu with
  | none => rw [e] at hb; cases hb
  | some r =>
    rw [e] at h
    unfold nxO nx4 at e
    simp only [h2] at e
    repeat' split at e
    all_goals first
      | (cases e; done)
      | (cases e; rfl)
      | (cases e; exfalso; omega)
      | (cases e; exfalso; have g : (5 : Int) = 2 := h; omega)
      | (cases e; exfalso; have g : (4 : Int) = 2 := h; omega)
      | (cases e; exfalso; have g : (3 : Int) = 2 := h; omega)
      | (cases e; exfalso; have g : (1 : Int) = 2 := h; omega)
theorem nx_5 (hb : nxB O i ev cpu = true) : ¬ cel O i 0 = 5 := by
  intro h
  unfold nxB nxO nx4 at hb
  rw [h] at hb
  revert hb
  by_cases h8 : ev = 8 <;> simp [h8]
theorem evL_pick (h : cel O i 0 = 1) (hO : ∀ row ∈ O, okRow KO row) (h0 : 0 ≤ i) (h1 : i < O.length) : evL O L i 2 c = L := by
  have e : nxO O i 2 c = some [2, c, cel O i 2, cel O i 3] := nx_pick h rfl
  have hb : nxB O i 2 c = true := by unfold nxB; rw [e]; rfl
  have eN : nxT O i 2 c = [[2, c, cel O i 2, cel O i 3]] := by unfold nxT; rw [e]; rfl
  have hs : ¬ nc O i 2 c 0 = cel O i 0 := by unfold nc; rw [eN, h]; show ¬ (2 : Int) = 1; decide
  obtain ⟨_, _, v⟩ := ev_all (A := []) (R := []) (L := L) (home := 0) hb (k10_len hO) h0 h1 hs
  rw [v]
  exact if_neg (by unfold nc; rw [eN]; show ¬ (2 : Int) = 5; decide)
/-- Dispatch, as the document tells it. -/
theorem disp_doc {M : Tab} (hI : invS O A R = true) (hQ : invB A M 64 = true) (hO : ∀ row ∈ O, okRow KO row) (hR : ∀ row ∈ R, okRow [.i .i64] row) (hT : 1 ≤ (A.length : Int)) (hl : (R.length : Int) = A.length) (h0 : 0 ≤ c) (h1 : c < R.length) (he : cel R c 0 = -1) (ha : anyB A = true) :
    evA O (popT A c) (popX A c) 2 c 0 = popT A c ∧ evR O R (popX A c) 2 c = setC R c (popX A c) ∧ evL O L (popX A c) 2 c = L := by
  have hp := pop_flat hT h0 (by omega) ha
  obtain ⟨p0, p1, p2⟩ := pop_in hI hT h0 (by omega) ha
  obtain ⟨q1, _⟩ := evR_pick (R := R) (B := []) (c := c) p2 hO p0 p1
  obtain ⟨_, k2, _⟩ := inv_pick (home := 0) (invS_iff.1 hI) (inv_nodup hQ) hp (k10_len hO) (one_len hR) h0 h1 he
  exact ⟨k2, q1, evL_pick p2 hO p0 p1⟩
theorem dsD_yes (h : C18.crG D i 0 < 1) : dsD D i q = C18.setG D i (rfD D i q) 0 := if_pos h
theorem dsD_no (h : ¬ C18.crG D i 0 < 1) : dsD D i q = D := if_neg h
theorem is_ev (h : C18.isB B L = true) : C18.isB (evB O B i ev cpu) (evL O L i ev cpu) = true := by
  unfold evB evL enB enL
  split
  · split
    · exact C18.is_dis h
    · exact h
  · exact h
theorem low_ev (h : low8 A = true) : low8 (evA O A i ev cpu home) = true := by
  unfold evA enA lvA
  split
  · split
    · split
      · exact low_push (low_drop h)
      · exact low_push h
    · split
      · exact low_drop h
      · exact h
  · exact h

/-! ### time goes on -/
theorem putAll_len : ∀ G L : Tab, (C18.putAll L G).length ≤ L.length + G.length
  | [], L => Nat.le_refl _
  | r :: G, L => by
    have h1 := putAll_len G (C18.putL L (r.getD 0 0) (r.getD 1 0) (r.getD 2 0))
    have h2 := C18.putL_len L (r.getD 0 0) (r.getD 1 0) (r.getD 2 0)
    have e : C18.putAll L (r :: G) = C18.putAll (C18.putL L (r.getD 0 0) (r.getD 1 0) (r.getD 2 0)) G := rfl
    rw [e, List.length_cons]
    omega
theorem tck_len (L : Tab) (n : Int) : ((C18.tckL L n).length : Int) ≤ L.length := by
  have h1 := putAll_len (C18.agaL n (C18.dueL L n)) (C18.restL L n)
  have h2 := C18.aga_len n (C18.dueL L n)
  have h3 := C18.due_len L n
  unfold C18.tckL
  omega
theorem td_skip (h0 : 0 ≤ c) (h1 : c < R.length) (h : cel R c 0 = -1) : tkD O A R D L c t = tkD O A R D L (c + 1) t := by
  unfold tkD
  rw [show R.length - c.toNat = (R.length - (c + 1).toNat) + 1 by omega]
  show tk2 _ _ _ (tkB c t O A R D L) = _
  unfold tkB
  rw [if_pos h]
theorem td_low (h0 : 0 ≤ c) (h1 : c < R.length) (h : ¬ cel R c 0 = -1) (hl : chD D (cel R c 0) t < 1) (hr : ((evR O R (cel R c 0) 3 0).length : Int) = R.length) :
    tkD O A R D L c t = tkD (evO O (cel R c 0) 3 0) (evA O A (cel R c 0) 3 0 c) (evR O R (cel R c 0) 3 0) (C18.setG D (cel R c 0) (chD D (cel R c 0) t) 0) (L ++ [[cel R c 0]]) (c + 1) t := by
  unfold tkD
  rw [show R.length - c.toNat = ((evR O R (cel R c 0) 3 0).length - (c + 1).toNat) + 1 by omega]
  show tk2 _ _ _ (tkB c t O A R D L) = _
  unfold tkB
  rw [if_neg h, if_pos hl]
theorem td_high (h0 : 0 ≤ c) (h1 : c < R.length) (h : ¬ cel R c 0 = -1) (hl : ¬ chD D (cel R c 0) t < 1) :
    tkD O A R D L c t = tkD O A R (C18.setG D (cel R c 0) (chD D (cel R c 0) t) 0) L (c + 1) t := by
  unfold tkD
  rw [show R.length - c.toNat = (R.length - (c + 1).toNat) + 1 by omega]
  show tk2 _ _ _ (tkB c t O A R D L) = _
  unfold tkB
  rw [if_neg h, if_neg hl]
theorem td_end (h1 : ¬ c < R.length) : tkD O A R D L c t = (O, A, R, D, L) := by
  unfold tkD
  rw [show R.length - c.toNat = 0 by omega]
  rfl
/-- But by a Stop nobody dies: the timers stay. -/
theorem evL_keep (hO : ∀ row ∈ O, okRow KO row) (h0 : 0 ≤ i) (h1 : i < O.length) (hp : ¬ ev = 8) : evL O L i ev cpu = L := by
  cases hb : nxB O i ev cpu with
  | false => exact evL_no hb
  | true =>
    by_cases hs : nc O i ev cpu 0 = cel O i 0
    · exact evL_same hs
    · obtain ⟨_, _, v⟩ := ev_all (A := []) (R := []) (L := L) (home := 0) hb (k10_len hO) h0 h1 hs
      rw [v]
      refine if_neg ?_
      unfold nxB at hb
      unfold nc nxT
      cases e : nxO O i ev cpu with
      | none => rw [e] at hb; cases hb
      | some r =>
        obtain ⟨s', on', w', h', rfl⟩ := four (nx_four e)
        exact nx_no5 e hp
end Go.SF.C21
namespace Go.SF.C21
open Go.SF Go.SF.C17
set_option linter.unusedVariables false
variable {O A B R L C D T : Tab} {i ev cpu home c x t q n : Int}

theorem take_step {A B : Tab} (hA : ∀ r ∈ A, okRow [.i .i64] r) (hB : ∀ r ∈ B, okRow [.i .i64] r) (hl : (A.length : Int) = B.length) (h : A.take i.toNat = B.take i.toNat) (h0 : 0 ≤ i) (h1 : i < A.length) (e : (A.getD i.toNat []).getD 0 0 = (B.getD i.toNat []).getD 0 0) : A.take (i + 1).toNat = B.take (i + 1).toNat := by
  have one : ∀ {X : Tab} (hX : ∀ r ∈ X, okRow [.i .i64] r) (hk : i.toNat < X.length), X[i.toNat] = [(X.getD i.toNat []).getD 0 0] := by
    intro X hX hk
    have hm := one_len hX _ (List.getElem_mem hk)
    have e2 : X.getD i.toNat [] = X[i.toNat] := by rw [List.getD_eq_getElem?_getD, List.getElem?_eq_getElem hk]; rfl
    rw [e2]
    match X[i.toNat], hm with
    | [y], _ => rfl
  rw [show (i + 1).toNat = i.toNat + 1 by omega, List.take_add_one, List.take_add_one, h, List.getElem?_eq_getElem (by omega), List.getElem?_eq_getElem (by omega), one hA (by omega), one hB (by omega), e]
theorem take_end {A B : Tab} (hl : (A.length : Int) = B.length) (h : A.take i.toNat = B.take i.toNat) (h1 : ¬ i < A.length) : A = B := by
  rwa [List.take_of_length_le (by omega), List.take_of_length_le (by omega)] at h
theorem tim_ev (h : C18.timB B n = true) : C18.timB (evB O B i ev cpu) n = true := by
  unfold evB enB
  split
  · split
    · exact C18.tim_del h
    · exact h
  · exact h
theorem cr_ds (h : C18.crB C D = true) : C18.crB (dsC C i q) (dsD D i q) = true := by
  have e := C18.cr_now (id := i) h
  unfold dsC dsD
  rw [e]
  split
  · have : rfD D i q = C18.rfI C i q 1 := by unfold rfD C18.rfI; rw [e]
    rw [this]
    exact C18.cr_set h
  · exact h
theorem arm_len (h : C18.isB B L = true) {id a e now : Int} (hb : (B.length : Int) ≤ 80) : ((C18.armL L id a e now).length : Int) < 1000 := by
  have h1 := C18.is_len (C18.is_arm (id := id) (a := a) (e := e) (now := now) h)
  have h2 : (C18.armL L id a e now).length ≤ L.length + 1 := by
    unfold C18.armL
    split
    · exact C18.putL_len ..
    · omega
  have h3 := C18.is_len h
  omega
theorem chD_same (h : C18.crB C D = true) : chD D i t = C18.chI C i t := by
  unfold chD C18.chI
  rw [C18.cr_now h]
theorem td_same : ∀ (n : Nat) (c t : Int) (O A R C D L : Tab), C18.crB C D = true →
    (tk2 n c t (O, A, R, D, L)).1 = (tk1 n c t (O, A, R, C, L)).1 ∧ (tk2 n c t (O, A, R, D, L)).2.1 = (tk1 n c t (O, A, R, C, L)).2.1 ∧
    (tk2 n c t (O, A, R, D, L)).2.2.1 = (tk1 n c t (O, A, R, C, L)).2.2.1 ∧ (tk2 n c t (O, A, R, D, L)).2.2.2.2 = (tk1 n c t (O, A, R, C, L)).2.2.2.2 ∧
    C18.crB (tk1 n c t (O, A, R, C, L)).2.2.2.1 (tk2 n c t (O, A, R, D, L)).2.2.2.1 = true
  | 0, _, _, _, _, _, _, _, _, h => ⟨rfl, rfl, rfl, rfl, h⟩
  | n + 1, c, t, O, A, R, C, D, L, h => by
    show (tk2 n (c + 1) t (tkB c t O A R D L)).1 = (tk1 n (c + 1) t (tkA c t O A R C L)).1 ∧ (tk2 n (c + 1) t (tkB c t O A R D L)).2.1 = (tk1 n (c + 1) t (tkA c t O A R C L)).2.1 ∧
      (tk2 n (c + 1) t (tkB c t O A R D L)).2.2.1 = (tk1 n (c + 1) t (tkA c t O A R C L)).2.2.1 ∧ (tk2 n (c + 1) t (tkB c t O A R D L)).2.2.2.2 = (tk1 n (c + 1) t (tkA c t O A R C L)).2.2.2.2 ∧
      C18.crB (tk1 n (c + 1) t (tkA c t O A R C L)).2.2.2.1 (tk2 n (c + 1) t (tkB c t O A R D L)).2.2.2.1 = true
    unfold tkA tkB
    rw [chD_same h]
    by_cases h1 : cel R c 0 = -1
    · rw [if_pos h1, if_pos h1]
      exact td_same n (c + 1) t O A R C D L h
    · rw [if_neg h1, if_neg h1]
      by_cases h2 : C18.chI C (cel R c 0) t < 1
      · rw [if_pos h2, if_pos h2]
        exact td_same n (c + 1) t _ _ _ _ _ _ (C18.cr_set h)
      · rw [if_neg h2, if_neg h2]
        exact td_same n (c + 1) t _ _ _ _ _ _ (C18.cr_set h)
theorem tkD_same (h : C18.crB C D = true) : (tkD O A R D L c t).1 = (tkL O A R C L c t).1 ∧ (tkD O A R D L c t).2.1 = (tkL O A R C L c t).2.1 ∧
    (tkD O A R D L c t).2.2.1 = (tkL O A R C L c t).2.2.1 ∧ (tkD O A R D L c t).2.2.2.2 = (tkL O A R C L c t).2.2.2.2 ∧
    C18.crB (tkL O A R C L c t).2.2.2.1 (tkD O A R D L c t).2.2.2.1 = true := td_same _ _ _ _ _ _ _ _ _ h
theorem bad_time {a b : Int} (k1 : a < b ∨ 549755813888 < a) (k2 : b ≤ a) (k3 : a ≤ 549755813888) : False := by omega
theorem tck_small (h1 : (T.length : Int) ≤ i) (h2 : i < 80) (h : C18.isB T L = true) : ((C18.tckL L n).length : Int) < 1000 := by
  have := tck_len L n
  have := C18.is_len h
  omega
end Go.SF.C21
