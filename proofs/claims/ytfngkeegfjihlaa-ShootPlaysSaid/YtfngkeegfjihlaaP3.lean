/- Chapter 15, plain: a post and a take keep what is so of the boxes. -/
import Derived.Test.YtfngkeegfjihlaaP2
namespace Go.SF.C15
open Go.SF
set_option linter.unusedVariables false

theorem count_key {M : Tab} (hn : (M.map hdK).Nodup) {r : List Int} (hr : r ∈ M) : M.countP (fun y => decide (hdK y = hdK r)) = 1 := by
  rw [List.countP_eq_length_filter]
  have := findK_nd hn hr
  unfold findK at this
  rw [this]; rfl
theorem count_split (p q : List Int → Bool) : ∀ M : Tab, M.countP p = M.countP (fun r => p r && q r) + M.countP (fun r => p r && !q r)
  | [] => rfl
  | r :: M => by
    have ih := count_split p q M
    simp only [List.countP_cons]
    cases p r <;> cases q r <;> simp <;> omega
theorem count_ne {M : Tab} (hn : (M.map hdK).Nodup) {r : List Int} (hr : r ∈ M) : M.countP (fun y => !decide (hdK y = hdK r)) = M.length - 1 := by
  have h1 := count_split (fun _ => true) (fun y => decide (hdK y = hdK r)) M
  have h2 := count_key hn hr
  simp only [Bool.true_and] at h1
  rw [h2, List.countP_eq_length.2 (by simp)] at h1
  omega

/-! ### a post -/
theorem post_len (M : Tab) (c id t p : Int) : (postT M c id t p).length = M.length := by simp [postT]
theorem post_keys {M : Tab} (hM : ∀ r ∈ M, r ≠ []) (c id t p : Int) : (postT M c id t p).map hdK = M.map hdK := by
  unfold postT
  rw [List.map_map]
  refine List.map_congr_left fun r hr => ?_
  simp only [Function.comp]
  split
  · rfl
  · exact hd_app (hM r hr)
theorem st_ne {B M O : Tab} (h : StP B M O) : ∀ r ∈ M, r ≠ [] := fun r hr e => by
  have := (h.row r hr).pos
  rw [e] at this; simp at this
theorem idsR_app {n : Int} {r : List Int} (h : RowP n r) (id t p : Int) : idsR (r ++ [id, t, p]) = idsR r ++ [id] := by
  unfold idsR
  have h1 := h.pos; have h2 := h.div
  cases r with
  | nil => simp at h1
  | cons a r => exact ids_app r id t p (by simpa using h2)
theorem st_post {B M O : Tab} (h : StP B M O) {c t p : Int} (h0 : 0 ≤ c) (h1 : c < M.length) (hf : fullB M c = false) {k : Int} (hk : k = M.length - 1) :
    stB B (postT M c (O.length + 1) t p) (O ++ [[k]]) = true := by
  have hM := st_ne h
  have hkeys := post_keys hM c (O.length + 1) t p
  have hnf : ∀ r ∈ M, ¬ hdK r = keyF M c → r.length ≤ 46 := by
    intro r hr hne
    have h1 := (h.row r hr).pos; have h2 := (h.row r hr).div; have h3 := (h.row r hr).le
    have : ¬ r.length = 49 := by
      intro e
      have : fullB M c = true := by
        simp only [fullB, List.any_eq_true, Bool.and_eq_true, Bool.not_eq_true', decide_eq_false_iff_not, decide_eq_true_eq]
        exact ⟨r, hr, hne, e⟩
      rw [hf] at this; cases this
    omega
  refine st_iff.2 ⟨?_, by rw [hkeys]; exact h.nd, fun r hr => ?_, fun i hi => ?_⟩
  · have := congrArg (List.map fun x : Int => [x]) hkeys
    rw [List.map_map, List.map_map] at this
    rw [h.eq]
    exact this.symm
  · obtain ⟨y, hy, rfl⟩ := List.mem_map.1 hr
    have hp := h.row y hy
    split
    · exact ⟨hp.pos, hp.div, hp.le, hp.inc, fun i hi => by have := hp.rng i hi; simp; omega⟩
    · rename_i hne
      have hl := hnf y hy hne
      have g1 := hp.pos; have g2 := hp.div
      refine ⟨by simp, by simp; omega, by simp; omega, ?_, ?_⟩
      · rw [idsR_app hp, List.pairwise_append]
        refine ⟨hp.inc, by simp, fun a ha b hb => ?_⟩
        rw [List.mem_singleton.1 hb]
        have := hp.rng a ha
        omega
      · rw [idsR_app hp]
        intro i hi
        rcases List.mem_append.1 hi with hi | hi
        · have := hp.rng i hi; simp; omega
        · rw [List.mem_singleton.1 hi]; simp; omega
  · simp only [List.length_append, List.length_cons, List.length_nil] at hi
    unfold cntId postT
    rw [List.countP_map]
    by_cases e : i = O.length
    · subst e
      rw [show (O ++ [[k]]).getD O.length [] = [k] by simp [List.getD_eq_getElem?_getD]]
      have hr := row_mem h0 h1
      have hc := count_ne h.nd hr
      rw [show (M.countP ((fun r => (idsR r).contains ((O.length : Int) + 1)) ∘ fun r => if hdK r = keyF M c then r else r ++ [(O.length : Int) + 1, t, p])) = M.countP (fun y => !decide (hdK y = hdK (rowL M c))) from ?_, hc]
      · have : 0 < M.length := by omega
        simp only [List.getD_cons_zero, hk]
        omega
      · refine List.countP_congr fun y hy => ?_
        simp only [Function.comp]
        by_cases e : hdK y = keyF M c
        · have e' : hdK y = hdK (rowL M c) := e
          rw [if_pos e]
          simp only [e', decide_true, Bool.not_true, List.contains_iff_mem]
          refine ⟨fun hm => ?_, fun hm => by cases hm⟩
          have := (h.row y hy).rng _ hm
          omega
        · have e' : ¬ hdK y = hdK (rowL M c) := e
          rw [if_neg e, idsR_app (h.row y hy), decide_eq_false e']
          simp
    · rw [show (O ++ [[k]]).getD i [] = O.getD i [] by simp only [List.getD_eq_getElem?_getD]; rw [List.getElem?_append_left (by omega)], h.cnt i (by omega)]
      unfold cntId
      congr 1
      refine List.countP_congr fun y hy => ?_
      simp only [Function.comp]
      split
      · rfl
      · rw [idsR_app (h.row y hy)]
        simp only [List.contains_iff_mem, List.mem_append, List.mem_singleton]
        have : ¬ (i : Int) + 1 = O.length + 1 := by omega
        simp [this]

/-! ### a take -/
theorem take_len (M : Tab) (c : Int) : (takeT M c).length = M.length := by simp [takeT, rcvT]
theorem take_keys (M : Tab) (c : Int) : (takeT M c).map hdK = M.map hdK := by
  unfold takeT rcvT
  rw [List.map_map]
  refine List.map_congr_left fun r hr => ?_
  simp only [Function.comp]
  split <;> rfl
theorem dec_len (O : Tab) (id : Int) : (decT O id).length = O.length := by simp [decT]
theorem dec_get {O : Tab} {id : Int} {i : Nat} (h1 : 1 ≤ id) (hi : i < O.length) (hne : (O.getD i []) ≠ []) : ((decT O id).getD i []).getD 0 0 = (O.getD i []).getD 0 0 - if id = (i : Int) + 1 then 1 else 0 := by
  unfold decT
  simp only [List.getD_eq_getElem?_getD, List.getElem?_modify]
  rw [List.getElem?_eq_getElem hi]
  simp only [Option.map_eq_map, Option.map_some, Option.getD_some]
  by_cases e : (id - 1).toNat = i
  · rw [if_pos e, if_pos (by omega)]
    simp only [List.getD_eq_getElem?_getD, List.getElem?_eq_getElem hi, Option.getD_some] at hne
    cases hr : O[i] with
    | nil => exact absurd hr hne
    | cons x r => simp
  · rw [if_neg e, if_neg (by omega)]
    simp
theorem take_hd {n : Int} {M : Tab} {c : Int} (h : RowP n (rowL M c)) (hq : 0 < qLen M c) : ∃ l, idsR (rowL M c) = msgI M c 0 :: l ∧ idsR (hdK (rowL M c) :: (rowL M c).tail.drop 3) = l := by
  have h1 := h.pos; have h2 := h.div
  obtain ⟨q1, _, _⟩ := qlen_of h
  unfold msgI idsR
  generalize rowL M c = r at *
  cases r with
  | nil => simp at h1
  | cons a r =>
    have hr : r ≠ [] := fun e => by subst e; simp at q1; omega
    obtain ⟨l, hl⟩ := ids_hd r (by simpa using h2) hr
    refine ⟨l, ?_, ?_⟩
    · simpa using hl
    · simp only [List.tail_cons]
      rw [ids_drop r (by simpa using h2), hl]; rfl
theorem st_take {B M O : Tab} (h : StP B M O) (hO : ∀ r ∈ O, r ≠ []) {c : Int} (h0 : 0 ≤ c) (h1 : c < M.length) (hq : 0 < qLen M c) :
    1 ≤ msgI M c 0 ∧ msgI M c 0 ≤ O.length ∧ stB B (takeT M c) (decT O (msgI M c 0)) = true := by
  have hr := row_mem h0 h1
  have hp := h.row _ hr
  obtain ⟨l, e1, e2⟩ := take_hd hp hq
  have hrg := hp.rng (msgI M c 0) (by rw [e1]; exact List.mem_cons_self ..)
  have hinc := hp.inc
  rw [e1] at hinc
  have hinc := List.pairwise_cons.1 hinc
  refine ⟨hrg.1, hrg.2, st_iff.2 ⟨?_, by rw [take_keys]; exact h.nd, fun r hr' => ?_, fun i hi => ?_⟩⟩
  · have := congrArg (List.map fun x : Int => [x]) (take_keys M c)
    rw [List.map_map, List.map_map] at this
    rw [h.eq]
    exact this.symm
  · rw [dec_len]
    obtain ⟨y, hy, rfl⟩ := List.mem_map.1 hr'
    have hpy := h.row y hy
    split
    · rename_i e
      have := (key_inj h.nd hy h0 h1).1 e
      subst this
      have g1 := hpy.pos; have g2 := hpy.div; have g3 := hpy.le
      obtain ⟨q1, _, _⟩ := qlen_of hpy
      refine ⟨by simp, ?_, ?_, ?_, ?_⟩
      · simp only [List.length_cons, List.length_drop, List.length_tail, show (3 : Int).toNat = 3 from rfl]; omega
      · simp only [List.length_cons, List.length_drop, List.length_tail, show (3 : Int).toNat = 3 from rfl]; omega
      · show (idsR (hdK (rowL M c) :: (rowL M c).tail.drop 3)).Pairwise _
        rw [e2]; exact hinc.2
      · show ∀ i ∈ idsR (hdK (rowL M c) :: (rowL M c).tail.drop 3), _
        rw [e2]
        exact fun i hi => hpy.rng i (by rw [e1]; exact List.mem_cons_of_mem _ hi)
    · exact hpy
  · rw [dec_len] at hi
    rw [dec_get hrg.1 hi (hO _ (by rw [List.getD_eq_getElem?_getD, List.getElem?_eq_getElem hi]; exact List.getElem_mem _)), h.cnt i hi]
    unfold cntId takeT rcvT
    rw [List.countP_map]
    have hs := count_split (fun r => (idsR r).contains ((i : Int) + 1)) (fun y => decide (hdK y = keyF M c)) M
    have hs2 := count_split ((fun r => (idsR r).contains ((i : Int) + 1)) ∘ fun r => if hdK r = keyF M c then hdK r :: r.tail.drop (3 : Int).toNat else r) (fun y => decide (hdK y = keyF M c)) M
    rw [hs, hs2]
    have e3 : M.countP (fun r => ((fun r => (idsR r).contains ((i : Int) + 1)) ∘ fun r => if hdK r = keyF M c then hdK r :: r.tail.drop (3 : Int).toNat else r) r && !decide (hdK r = keyF M c)) =
        M.countP (fun r => (idsR r).contains ((i : Int) + 1) && !decide (hdK r = keyF M c)) := by
      refine List.countP_congr fun y hy => ?_
      simp only [Function.comp]
      by_cases e : hdK y = keyF M c
      · simp [e]
      · simp [e]
    have one : ∀ f : List Int → Bool, M.countP (fun r => f r && decide (hdK r = keyF M c)) = (f (rowL M c)).toNat := by
      intro f
      have hk := count_key h.nd hr
      cases hfr : f (rowL M c) with
      | true =>
        rw [Bool.toNat_true, ← hk]
        refine List.countP_congr fun y hy => ?_
        by_cases e : hdK y = keyF M c
        · have e' : hdK y = hdK (rowL M c) := e
          rw [decide_eq_true e, decide_eq_true e', (key_inj h.nd hy h0 h1).1 e, hfr]; simp
        · have e' : ¬ hdK y = hdK (rowL M c) := e
          rw [decide_eq_false e, decide_eq_false e']; simp
      | false =>
        rw [Bool.toNat_false, List.countP_eq_zero]
        intro y hy
        by_cases e : hdK y = keyF M c
        · rw [decide_eq_true e, (key_inj h.nd hy h0 h1).1 e]; simpa using hfr
        · rw [decide_eq_false e]; simp
    rw [e3, one, one]
    have e4 : ((fun r => (idsR r).contains ((i : Int) + 1)) ∘ fun r => if hdK r = keyF M c then hdK r :: r.tail.drop (3 : Int).toNat else r) (rowL M c) = l.contains ((i : Int) + 1) := by
      simp only [Function.comp]
      rw [if_pos (show hdK (rowL M c) = keyF M c from rfl), show (3 : Int).toNat = 3 from rfl, e2]
    rw [e4, e1]
    by_cases e : msgI M c 0 = (i : Int) + 1
    · have h1 : l.contains ((i : Int) + 1) = false := by
        rw [Bool.eq_false_iff]
        intro hc
        have := hinc.1 _ (List.contains_iff_mem.1 hc)
        omega
      have h2 : (msgI M c 0 :: l).contains ((i : Int) + 1) = true := by rw [e]; simp
      rw [if_pos e, h1, h2, Bool.toNat_true, Bool.toNat_false]
      omega
    · rw [if_neg e]
      have : (msgI M c 0 :: l).contains ((i : Int) + 1) = l.contains ((i : Int) + 1) := by
        rw [Bool.eq_iff_iff]
        simp only [List.contains_iff_mem, List.mem_cons]
        exact ⟨fun h => h.resolve_left (fun e' => e e'.symm), .inr⟩
      rw [this]
      omega
/-! ### what is told -/
theorem msg_find {B M O : Tab} (h : StP B M O) {c : Int} (h0 : 0 ≤ c) (h1 : c < M.length) (j : Nat) : ((findK M ((B.getD c.toNat []).getD 0 0)).getD 0 []).getD (j + 1) 0 = msgI M c j := by
  rw [find_at h h0 h1]; rfl
theorem found {B M O : Tab} (h : StP B M O) {c : Int} (h0 : 0 ≤ c) (h1 : c < M.length) : 0 < (findK M ((B.getD c.toNat []).getD 0 0)).length := by
  rw [find_at h h0 h1]; exact Nat.zero_lt_one
theorem cnt_le {B M O : Tab} (h : StP B M O) {i : Nat} (hi : i < O.length) : 0 ≤ (O.getD i []).getD 0 0 ∧ (O.getD i []).getD 0 0 ≤ M.length := by
  rw [h.cnt i hi]
  unfold cntId
  have := List.countP_le_length (p := fun r => (idsR r).contains ((i : Int) + 1)) (l := M)
  omega
theorem wrap_id {x : Int} (h : -1000 ≤ x) (h' : x ≤ 10000) : IntKind.wrap .i64 x = x := by
  simp [IntKind.wrap, IntKind.bits, IntKind.signed]; omega
theorem open_end {O : Tab} {i : Int} (h : O.length ≤ i) : openT O i = [] := by
  unfold openT
  rw [show O.length - i.toNat = 0 by omega]; rfl
theorem open_step {O : Tab} {i : Int} (h0 : 0 ≤ i) (h : i < O.length) : openT O i = (if 0 < (O.getD i.toNat []).getD 0 0 then [[i + 1]] else []) ++ openT O (i + 1) := by
  unfold openT
  rw [show O.length - i.toNat = (O.length - (i + 1).toNat) + 1 by omega, openN, show i.toNat + 1 = (i + 1).toNat by omega, show ((i.toNat : Nat) : Int) = i by omega]
theorem openN_len : ∀ (O : Tab) (n i : Nat), (openN O n i).length ≤ n
  | O, 0, i => Nat.le_refl _
  | O, n + 1, i => by
    have := openN_len O n (i + 1)
    unfold openN
    split <;> simp <;> omega
theorem open_len (O : Tab) {i : Int} (h0 : 0 ≤ i) (h : i ≤ O.length) : ((openT O i).length : Int) ≤ O.length - i := by
  have := openN_len O (O.length - i.toNat) i.toNat
  unfold openT
  omega
end Go.SF.C15
