/- Chapter 18: the rows by time, the document's answer, in plain Lean. -/
import Derived.Test.YtnjnmeidjcdppaaP3
namespace Go.SF.C18
open Go.SF
set_option linter.unusedVariables false
set_option linter.unusedSimpArgs false
variable {T L M D G C : Tab} {id a e t now i n : Int}

/-- By time. -/
def SortedL (L : Tab) : Prop := L.Pairwise fun r s => aheadB (r.getD 0 0) (r.getD 1 0) (s.getD 0 0) (s.getD 1 0) = true
theorem ins_perm (id a t : Int) (L : Tab) : (insF id a t L).Perm ([id, a, t] :: L) := by
  unfold insF
  have : L = (L.takeWhile fun r => aheadR r id a) ++ L.dropWhile fun r => aheadR r id a := (List.takeWhile_append_dropWhile ..).symm
  conv => rhs; rw [this]
  exact List.perm_middle
theorem hd0 (r : List Int) : r.getD 0 0 = hdK r := by cases r <;> rfl
theorem three' {r : List Int} (h : r.length = 3) : [hdK r, r.getD 1 0, r.getD 2 0] = r := by
  match r, h with
  | [x, y, z], _ => rfl
theorem sort_cons (r : List Int) (T : Tab) : sortT (r :: T) = insF (hdK r) (r.getD 1 0) (r.getD 2 0) (sortT T) := rfl
theorem sort_mem (hT : ∀ r ∈ T, r.length = 3) : (sortT T).Perm T := by
  induction T with
  | nil => exact .nil
  | cons r T ih =>
    rw [sort_cons]
    refine (ins_perm _ _ _ _).trans ?_
    rw [three' (hT r (List.mem_cons_self ..))]
    exact .cons _ (ih fun s hs => hT s (List.mem_cons_of_mem _ hs))
theorem keys_nodup (h : T.Pairwise fun a b => hdK a < hdK b) : (T.map hdK).Nodup := by
  rw [List.Nodup, List.pairwise_map]
  exact h.imp fun h e => by omega
theorem sort_perm {A B : Tab} (h : A.Perm B) (hn : (A.map hdK).Nodup) : sortT A = sortT B := by
  induction h with
  | nil => rfl
  | cons x h ih => rw [sort_cons, sort_cons, ih (List.nodup_cons.1 hn).2]
  | swap x y l =>
    rw [sort_cons, sort_cons, sort_cons, sort_cons]
    refine ins_swap (fun e => ?_) _
    rw [List.map_cons, List.map_cons, List.nodup_cons] at hn
    exact hn.1 (by rw [e]; exact List.mem_cons_self ..)
  | trans h1 h2 ih1 ih2 => rw [ih1 hn, ih2 ((h1.map hdK).nodup_iff.1 hn)]
theorem ins_sorted (hL : SortedL L) (hk : ∀ r ∈ L, hdK r ≠ id) : SortedL (insF id a t L) := by
  induction L with
  | nil => exact List.pairwise_singleton ..
  | cons y L ih =>
    rw [ins_cons]
    have hL' := List.pairwise_cons.1 hL
    split
    · rename_i hy
      refine List.pairwise_cons.2 ⟨fun s hs => ?_, ih hL'.2 fun r hr => hk r (List.mem_cons_of_mem _ hr)⟩
      rcases List.mem_cons.1 ((ins_perm id a t L).mem_iff.1 hs) with rfl | hs
      · exact hy
      · exact hL'.1 s hs
    · rename_i hy
      have hy : aheadB (y.getD 0 0) (y.getD 1 0) id a = false := by simpa [aheadR] using hy
      have hne : y.getD 0 0 ≠ id := by rw [hd0]; exact hk y (List.mem_cons_self ..)
      have h2 := trich hne hy
      refine List.pairwise_cons.2 ⟨fun s hs => ?_, hL⟩
      rcases List.mem_cons.1 hs with rfl | hs
      · exact h2
      · exact trans h2 (hL'.1 s hs)
theorem sort_sorted (hT : ∀ r ∈ T, r.length = 3) (hn : (T.map hdK).Nodup) : SortedL (sortT T) := by
  induction T with
  | nil => exact List.Pairwise.nil
  | cons r T ih =>
    have hn' := List.nodup_cons.1 hn
    have hT' : ∀ s ∈ T, s.length = 3 := fun s hs => hT s (List.mem_cons_of_mem _ hs)
    rw [sort_cons]
    refine ins_sorted (ih hT' hn'.2) fun s hs e => hn'.1 ?_
    rw [← e]
    exact List.mem_map_of_mem ((sort_mem hT').mem_iff.1 hs)
theorem ins_filter {p : List Int → Bool} (hL : SortedL L) (hk : ∀ r ∈ L, hdK r ≠ id) : (insF id a t L).filter p = if p [id, a, t] then insF id a t (L.filter p) else L.filter p := by
  induction L with
  | nil => rw [ins_nil]; by_cases h : p [id, a, t] <;> simp [h, ins_nil]
  | cons y L ih =>
    have hL' := List.pairwise_cons.1 hL
    have ih := ih hL'.2 fun r hr => hk r (List.mem_cons_of_mem _ hr)
    rw [ins_cons]
    by_cases hy : aheadR y id a = true
    · rw [if_pos hy]
      by_cases py : p y = true
      · rw [List.filter_cons_of_pos py, List.filter_cons_of_pos py, ih]
        split
        · rw [ins_cons, if_pos hy]
        · rfl
      · rw [List.filter_cons_of_neg py, List.filter_cons_of_neg py, ih]
    · rw [if_neg hy]
      by_cases pr : p [id, a, t] = true
      · rw [List.filter_cons_of_pos pr, if_pos pr]
        cases hz : List.filter p (y :: L) with
        | nil => rw [ins_nil]
        | cons z Z =>
          rw [ins_cons, if_neg]
          intro hza
          have hm : z ∈ y :: L := (List.mem_filter.1 (by rw [hz]; exact List.mem_cons_self ..)).1
          rcases List.mem_cons.1 hm with rfl | hm
          · exact hy hza
          · exact hy (trans (hL'.1 z hm) hza)
      · rw [List.filter_cons_of_neg pr, if_neg pr]
theorem sort_filter {p : List Int → Bool} (hT : ∀ r ∈ T, r.length = 3) (hn : (T.map hdK).Nodup) : (sortT T).filter p = sortT (T.filter p) := by
  induction T with
  | nil => rfl
  | cons r T ih =>
    have hn' := List.nodup_cons.1 hn
    have hT' : ∀ s ∈ T, s.length = 3 := fun s hs => hT s (List.mem_cons_of_mem _ hs)
    rw [sort_cons, ins_filter (sort_sorted hT' hn'.2) fun s hs e => hn'.1 (by rw [← e]; exact List.mem_map_of_mem ((sort_mem hT').mem_iff.1 hs)), three' (hT r (List.mem_cons_self ..)), ih hT' hn'.2]
    by_cases pr : p r = true
    · rw [if_pos pr, List.filter_cons_of_pos pr, sort_cons]
    · rw [if_neg pr, List.filter_cons_of_neg pr]
theorem dis_sort (hT : ∀ r ∈ T, r.length = 3) (hn : (T.map hdK).Nodup) : disL (sortT T) id = sortT (delK T id) := sort_filter hT hn
theorem put_sort (hT : ∀ r ∈ T, r.length = 3) (hk : T.Pairwise fun a b => hdK a < hdK b) : putL (sortT T) id a e = sortT (putK T [id, a, e]) := by
  have hn := keys_nodup hk
  unfold putL
  rw [dis_sort hT hn]
  show sortT ([id, a, e] :: delK T id) = _
  refine sort_perm ?_ ?_
  · unfold putK delK
    refine List.Perm.trans ?_ List.perm_middle.symm
    refine .cons _ ?_
    clear hn hT
    induction T with
    | nil => exact .nil
    | cons r T ih =>
      have ih := ih (List.pairwise_cons.1 hk).2
      have e0 : hdK [id, a, e] = id := rfl
      rw [e0] at ih ⊢
      rcases Int.lt_trichotomy (hdK r) id with h | h | h
      · rw [List.filter_cons_of_pos (by simp; omega), List.filter_cons_of_pos (by simpa using h), List.filter_cons_of_neg (by simp; omega)]
        exact .cons _ ih
      · rw [List.filter_cons_of_neg (by simp [h]), List.filter_cons_of_neg (by simp [h]), List.filter_cons_of_neg (by simp [h])]
        exact ih
      · rw [List.filter_cons_of_pos (by simp; omega), List.filter_cons_of_neg (by simp; omega), List.filter_cons_of_pos (by simpa using h)]
        exact (ih.cons _).trans List.perm_middle.symm
  · rw [List.map_cons, List.nodup_cons]
    refine ⟨fun hm => ?_, (List.filter_sublist.map hdK).nodup hn⟩
    obtain ⟨s, hs, hse⟩ := List.mem_map.1 hm
    have := (List.mem_filter.1 hs).2
    have hse : hdK s = id := hse
    simp [hse] at this
theorem arm_sort (hT : ∀ r ∈ T, r.length = 3) (hk : T.Pairwise fun a b => hdK a < hdK b) : armL (sortT T) id a e now = sortT (armT T id a e now) := by
  unfold armL armT
  split
  · exact put_sort hT hk
  · rfl
/-- Those that are due come first. -/
theorem due_filter (hL : SortedL L) : dueL L now = L.filter (dueB now) ∧ restL L now = L.filter fun r => !dueB now r := by
  unfold dueL restL dueB
  induction L with
  | nil => exact ⟨rfl, rfl⟩
  | cons y L ih =>
    have hL' := List.pairwise_cons.1 hL
    obtain ⟨i1, i2⟩ := ih hL'.2
    by_cases h : y.getD 1 0 ≤ now
    · rw [List.takeWhile_cons_of_pos (by simpa using h), List.dropWhile_cons_of_pos (by simpa using h), List.filter_cons_of_pos (by simpa using h), List.filter_cons_of_neg (by simpa using h), i1, i2]
      exact ⟨rfl, rfl⟩
    · rw [List.takeWhile_cons_of_neg (by simpa using h), List.dropWhile_cons_of_neg (by simpa using h)]
      have all : ∀ r ∈ y :: L, ¬ r.getD 1 0 ≤ now := by
        intro r hr
        rcases List.mem_cons.1 hr with rfl | hr
        · exact h
        · have := hL'.1 r hr
          simp only [aheadB, Bool.or_eq_true, Bool.and_eq_true, decide_eq_true_eq] at this
          omega
      rw [List.filter_eq_nil_iff.2 fun r hr => by simpa using all r hr, List.filter_eq_self.2 fun r hr => by simpa using all r hr]
      exact ⟨rfl, rfl⟩
theorem map_ins (f : List Int → Int) (L : Tab) : (insF id a t L).map (fun r => [hdK r, r.getD 1 0, f r]) = insF id a (f [id, a, t]) (L.map fun r => [hdK r, r.getD 1 0, f r]) := by
  induction L with
  | nil => rfl
  | cons y L ih =>
    rw [ins_cons, List.map_cons, ins_cons]
    have : aheadR [hdK y, y.getD 1 0, f y] id a = aheadR y id a := by unfold aheadR; rw [← hd0 y]; rfl
    rw [this]
    split
    · rw [List.map_cons, ih]
    · rfl
theorem out_sort (hD : ∀ r ∈ D, r.length = 3) : outL now (sortT D) = D.foldr (fireR now) [] := by
  induction D with
  | nil => rfl
  | cons r D ih =>
    rw [sort_cons, outL, map_ins, List.foldr_cons, fireR, ← ih fun s hs => hD s (List.mem_cons_of_mem _ hs)]
    rfl
theorem tick_out (hT : ∀ r ∈ T, r.length = 3) (hn : (T.map hdK).Nodup) : outL now (dueL (sortT T) now) = tickL T now := by
  rw [(due_filter (sort_sorted hT hn)).1, sort_filter hT hn, out_sort fun r hr => hT r (List.mem_filter.1 hr).1]
  rfl
theorem putAll_sort : ∀ {G N : Tab}, (∀ r ∈ N, r.length = 3) → (∀ r ∈ G, r.length = 3) → ((G ++ N).map hdK).Nodup → putAll (sortT N) G = sortT (G.reverse ++ N)
  | [], N, _, _, _ => rfl
  | g :: G, N, hN, hG, hn => by
    show putAll (putL (sortT N) (g.getD 0 0) (g.getD 1 0) (g.getD 2 0)) G = _
    have hn0 : g :: (G ++ N) = (g :: G) ++ N := rfl
    have hn1 := List.nodup_cons.1 (show ((g :: (G ++ N)).map hdK).Nodup from hn)
    have hnN : (N.map hdK).Nodup := by
      rw [List.map_append] at hn1
      exact (List.nodup_append.1 hn1.2).2.1
    have hg : hdK g ∉ N.map hdK := fun hm => hn1.1 (by rw [List.map_append]; exact List.mem_append_right _ hm)
    have e1 : putL (sortT N) (g.getD 0 0) (g.getD 1 0) (g.getD 2 0) = sortT (g :: N) := by
      unfold putL
      rw [hd0, dis_sort hN hnN, sort_cons]
      have : delK N (hdK g) = N := List.filter_eq_self.2 fun r hr => by
        simp only [Bool.not_eq_true', decide_eq_false_iff_not]
        intro e
        exact hg (by rw [← e]; exact List.mem_map_of_mem hr)
      rw [this]
    have hp : (g :: (G ++ N)).Perm (G ++ g :: N) := List.perm_middle.symm
    rw [e1, putAll_sort (N := g :: N) (fun r hr => (List.mem_cons.1 hr).elim (fun e => by rw [e]; exact hG g (List.mem_cons_self ..)) (hN r)) (fun r hr => hG r (List.mem_cons_of_mem _ hr)) (((hp.map hdK).nodup_iff).1 hn)]
    rw [List.reverse_cons, List.append_assoc]; rfl
theorem filterMap_part (now : Int) : ∀ T : Tab, (T.filterMap (stepR now)).Perm ((T.filter (dueB now)).filterMap (nxtR now) ++ T.filter fun r => !dueB now r)
  | [] => .nil
  | r :: T => by
    have ih := filterMap_part now T
    by_cases h : dueB now r = true
    · rw [List.filter_cons_of_pos h, List.filter_cons_of_neg (by simp [h])]
      have : stepR now r = nxtR now r := by unfold stepR nxtR; rw [if_pos h]
      rw [List.filterMap_cons, List.filterMap_cons, this]
      cases nxtR now r
      · exact ih
      · exact .cons _ ih
    · rw [List.filter_cons_of_neg h, List.filter_cons_of_pos (by simp [h])]
      have : stepR now r = some r := by unfold stepR; rw [if_neg h]
      rw [List.filterMap_cons, this]
      exact (ih.cons _).trans List.perm_middle.symm
theorem step_key {r s : List Int} (h : stepR now r = some s) : hdK s = hdK r := by
  unfold stepR at h
  split at h
  · split at h
    · cases h
    · simp only [Option.some.injEq] at h; rw [← h]; rfl
  · simp only [Option.some.injEq] at h; rw [h]
theorem step_len {r s : List Int} (hr : r.length = 3) (h : stepR now r = some s) : s.length = 3 := by
  unfold stepR at h
  split at h
  · split at h
    · cases h
    · simp only [Option.some.injEq] at h; rw [← h]; rfl
  · simp only [Option.some.injEq] at h; rw [← h]; exact hr
theorem filterMap_keys (now : Int) : ∀ {T : Tab}, (T.map hdK).Nodup → ((T.filterMap (stepR now)).map hdK).Nodup ∧ ∀ k ∈ (T.filterMap (stepR now)).map hdK, k ∈ T.map hdK
  | [], _ => ⟨List.nodup_nil, by simp⟩
  | r :: T, h => by
    have h' := List.nodup_cons.1 h
    obtain ⟨i1, i2⟩ := filterMap_keys now h'.2
    rw [List.filterMap_cons]
    cases hs : stepR now r with
    | none => exact ⟨i1, fun k hk => List.mem_cons_of_mem _ (i2 k hk)⟩
    | some s =>
      have e := step_key hs
      refine ⟨List.nodup_cons.2 ⟨fun hm => h'.1 (by rw [← e]; exact i2 _ hm), i1⟩, fun k hk => ?_⟩
      rcases List.mem_cons.1 hk with rfl | hk
      · rw [e]; exact List.mem_cons_self ..
      · exact List.mem_cons_of_mem _ (i2 k hk)
theorem tick_sort (hT : ∀ r ∈ T, r.length = 3) (hn : (T.map hdK).Nodup) : tckL (sortT T) now = sortT (tickT T now) := by
  have hd := due_filter (now := now) (sort_sorted hT hn)
  have hTf : ∀ (p : List Int → Bool), ∀ r ∈ T.filter p, r.length = 3 := fun p r hr => hT r (List.mem_filter.1 hr).1
  unfold tckL
  rw [hd.1, hd.2, sort_filter hT hn, sort_filter hT hn]
  have hkf := filterMap_keys now hn
  have hpart := filterMap_part now T
  have hG : (agaL now (sortT (T.filter (dueB now)))).Perm ((T.filter (dueB now)).filterMap (nxtR now)) := (sort_mem (hTf _)).filterMap _
  have h1 : (agaL now (sortT (T.filter (dueB now))) ++ T.filter fun r => !dueB now r).Perm (T.filterMap (stepR now)) := (hG.append_right _).trans hpart.symm
  rw [putAll_sort (hTf _) (fun r hr => ?_) ((h1.map hdK).nodup_iff.2 hkf.1)]
  · refine sort_perm (((List.reverse_perm _).append_right _).trans h1) ?_
    exact ((((List.reverse_perm _).append_right _).trans h1).map hdK).nodup_iff.2 hkf.1
  · obtain ⟨s, _, hs⟩ := List.mem_filterMap.1 hr
    unfold nxtR at hs
    split at hs
    · cases hs
    · simp only [Option.some.injEq] at hs; rw [← hs]; rfl
/-- The least time comes first. -/
theorem sort_head (hT : ∀ r ∈ T, r.length = 3) (hn : (T.map hdK).Nodup) (hb : ∀ r ∈ T, r.getD 1 0 ≤ 1099511627776) (h0 : T.length ≠ 0) : ((sortT T).getD (0 : Int).toNat []).getD 1 0 = leastI T := by
  have hs := sort_sorted hT hn
  have hp := sort_mem hT
  have hlow : ∀ (L : Tab) (m : Int), (∀ r ∈ L, m ≤ r.getD 1 0) → m ≤ 1099511627776 → m ≤ leastI L := by
    intro L m
    induction L with
    | nil => exact fun _ h => h
    | cons r L ih =>
      intro h1 h2
      have := ih (fun s hs => h1 s (List.mem_cons_of_mem _ hs)) h2
      have := h1 r (List.mem_cons_self ..)
      show m ≤ min (r.getD 1 0) (leastI L)
      omega
  have hmem : ∀ (L : Tab), ∀ r ∈ L, leastI L ≤ r.getD 1 0 := by
    intro L
    induction L with
    | nil => exact fun r hr => by cases hr
    | cons s L ih =>
      intro r hr
      show min (s.getD 1 0) (leastI L) ≤ _
      rcases List.mem_cons.1 hr with rfl | hr
      · omega
      · have := ih r hr; omega
  cases hL : sortT T with
  | nil => rw [hL] at hp; have := hp.length_eq; simp at this; omega
  | cons y L =>
    show y.getD 1 0 = _
    rw [hL] at hs hp
    have hy : y ∈ T := hp.mem_iff.1 (List.mem_cons_self ..)
    refine Int.le_antisymm (hlow T _ (fun r hr => ?_) (hb y hy)) (hmem T y hy)
    rcases List.mem_cons.1 (hp.mem_iff.2 hr) with rfl | hr
    · exact Int.le_refl _
    · have := (List.pairwise_cons.1 hs).1 r hr
      simp only [aheadB, Bool.or_eq_true, Bool.and_eq_true, decide_eq_true_eq] at this
      omega
theorem sort_len (hT : ∀ r ∈ T, r.length = 3) : (sortT T).length = T.length := (sort_mem hT).length_eq
end Go.SF.C18
