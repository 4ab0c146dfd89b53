/- Chapter 15, plain: queues and channels; new boxes; places set. -/
import Derived.Test.YtfngkeegfjihlaaP3
namespace Go.SF.C15
open Go.SF
set_option linter.unusedVariables false

theorem ok_iff {B : Tab} : okB B = true ↔ (B.map hdK).Nodup ∧ ∀ r ∈ B, r = [hdK r] := by
  simp only [okB, Bool.and_eq_true, decide_eq_true_eq, List.all_eq_true]
theorem ok_one (x : Int) : okB [[x]] = true := ok_iff.2 ⟨by simp, by simp [hdK]⟩
theorem lay_len {B Q : Tab} (h : Q.length = B.length) : (layT B Q).length = B.length := by simp [layT, h]
theorem lay_get {B Q : Tab} (h : Q.length = B.length) {i : Nat} (hi : i < B.length) : (layT B Q)[i]? = some (hdK (B.getD i []) :: Q.getD i []) := by
  simp [layT, List.getElem?_zipWith, List.getD_eq_getElem?_getD, hi, (by omega : i < Q.length)]
theorem lay_heads {B Q : Tab} (h : Q.length = B.length) : (layT B Q).map hdK = B.map hdK := by
  apply List.ext_getElem?
  intro i
  simp only [List.getElem?_map]
  by_cases hi : i < B.length
  · rw [lay_get h hi, List.getElem?_eq_getElem hi]
    simp [hdK, List.getD_eq_getElem?_getD, hi]
  · rw [List.getElem?_eq_none (by rw [lay_len h]; omega), List.getElem?_eq_none (by omega)]
theorem lay_hds {B Q : Tab} (hB : okB B = true) (h : Q.length = B.length) : hdsT (layT B Q) = B := by
  have h2 := (ok_iff.1 hB).2
  have e : hdsT (layT B Q) = ((layT B Q).map hdK).map fun x => [x] := by simp [hdsT]
  rw [e, lay_heads h, List.map_map]
  conv => rhs; rw [← List.map_id B]
  exact List.map_congr_left fun r hr => (h2 r hr).symm
theorem lay_mem {B Q : Tab} (h : Q.length = B.length) {r : List Int} : r ∈ layT B Q ↔ ∃ i, i < B.length ∧ r = hdK (B.getD i []) :: Q.getD i [] := by
  constructor
  · intro hr
    obtain ⟨i, hi, e⟩ := List.mem_iff_getElem.1 hr
    rw [lay_len h] at hi
    have := lay_get h hi
    rw [List.getElem?_eq_getElem (by rw [lay_len h]; exact hi), e] at this
    exact ⟨i, hi, Option.some.inj this⟩
  · rintro ⟨i, hi, rfl⟩
    exact List.mem_of_getElem? (lay_get h hi)
theorem q_mem {B Q : Tab} (h : Q.length = B.length) {q : List Int} : q ∈ Q ↔ ∃ i, i < B.length ∧ q = Q.getD i [] := by
  constructor
  · intro hr
    obtain ⟨i, hi, e⟩ := List.mem_iff_getElem.1 hr
    exact ⟨i, by omega, by simp [List.getD_eq_getElem?_getD, hi, e]⟩
  · rintro ⟨i, hi, rfl⟩
    rw [List.getD_eq_getElem?_getD, List.getElem?_eq_getElem (by omega : i < Q.length)]
    exact List.getElem_mem _
theorem rowQ_iff {n : Int} {x : Int} {q : List Int} : rowQ n q = true ↔ RowP n (x :: q) := by
  simp only [rowQ, Bool.and_eq_true, decide_eq_true_eq, List.all_eq_true]
  constructor
  · rintro ⟨a, b, c, d⟩
    exact ⟨by simp, by simpa using a, by simp; omega, c, d⟩
  · rintro ⟨_, a, b, c, d⟩
    exact ⟨by simpa using a, by simp at b; omega, c, d⟩
theorem lay_cnt : ∀ {B Q : Tab}, Q.length = B.length → ∀ i, cntId (layT B Q) i = cntQ Q i
  | [], [], _, i => rfl
  | [], _ :: _, h, _ => by simp at h
  | _ :: _, [], h, _ => by simp at h
  | b :: B, q :: Q, h, i => by
    have ih := lay_cnt (B := B) (Q := Q) (by simpa using h) i
    unfold cntId cntQ layT at *
    simp only [List.zipWith_cons_cons, List.countP_cons]
    have e : (idsR (hdK b :: q)).contains i = (idsT q).contains i := rfl
    rw [e]
    omega
theorem st_lay {B Q O : Tab} (hB : okB B = true) (h : Q.length = B.length) : StP B (layT B Q) O ↔ stQ Q O = true := by
  simp only [stQ, Bool.and_eq_true, List.all_eq_true, decide_eq_true_eq, List.mem_range]
  constructor
  · intro g
    refine ⟨fun q hq => ?_, fun i hi => by rw [g.cnt i hi, lay_cnt h]⟩
    obtain ⟨i, hi, rfl⟩ := (q_mem h).1 hq
    exact rowQ_iff.2 (g.row _ ((lay_mem h).2 ⟨i, hi, rfl⟩))
  · rintro ⟨g1, g2⟩
    refine ⟨(lay_hds hB h).symm, by rw [lay_heads h]; exact (ok_iff.1 hB).1, fun r hr => ?_, fun i hi => by rw [g2 i hi, lay_cnt h]⟩
    obtain ⟨i, hi, rfl⟩ := (lay_mem h).1 hr
    exact rowQ_iff.1 (g1 _ ((q_mem h).2 ⟨i, hi, rfl⟩))
theorem lay_row {B Q : Tab} (h : Q.length = B.length) {c : Int} (h0 : 0 ≤ c) (h1 : c < B.length) : rowL (layT B Q) c = hdK (B.getD c.toNat []) :: rowL Q c := by
  unfold rowL
  rw [List.getD_eq_getElem?_getD (l := layT B Q), lay_get h (by omega)]; rfl
theorem lay_qlen {B Q : Tab} (h : Q.length = B.length) {c : Int} (h0 : 0 ≤ c) (h1 : c < B.length) : qLen (layT B Q) c = lenQ Q c := by
  unfold qLen lenQ
  rw [lay_row h h0 h1]; simp
theorem lay_msg {B Q : Tab} (h : Q.length = B.length) {c : Int} (h0 : 0 ≤ c) (h1 : c < B.length) (j : Nat) : msgI (layT B Q) c j = msgQ Q c j := by
  unfold msgI msgQ
  rw [lay_row h h0 h1]; simp
theorem lay_key {B Q : Tab} (hB : okB B = true) (h : Q.length = B.length) {c : Int} (h0 : 0 ≤ c) (h1 : c < B.length) {i : Nat} (hi : i < B.length) : hdK (B.getD i []) = keyF (layT B Q) c ↔ (i : Int) = c := by
  have hn := (ok_iff.1 hB).1
  have e1 : (B.map hdK)[i]? = some (hdK (B.getD i [])) := by simp [List.getD_eq_getElem?_getD, hi]
  have e2 : (B.map hdK)[c.toNat]? = some (keyF (layT B Q) c) := by
    unfold keyF
    rw [lay_row h h0 h1]
    simp [hdK, List.getD_eq_getElem?_getD, (by omega : c.toNat < B.length)]
  constructor
  · intro e
    rw [e] at e1
    have := (List.getElem?_inj (by simpa using hi) hn).1 (e1.trans e2.symm)
    omega
  · intro e
    have : c.toNat = i := by omega
    rw [this, e1] at e2
    exact Option.some.inj e2
theorem lay_full {B Q : Tab} (hB : okB B = true) (h : Q.length = B.length) {c : Int} (h0 : 0 ≤ c) (h1 : c < B.length) : fullB (layT B Q) c = fullQ Q c := by
  rw [Bool.eq_iff_iff]
  simp only [fullB, fullQ, List.any_eq_true, Bool.and_eq_true, Bool.not_eq_true', decide_eq_false_iff_not, decide_eq_true_eq, List.mem_range]
  constructor
  · rintro ⟨r, hr, hk, hl⟩
    obtain ⟨i, hi, rfl⟩ := (lay_mem h).1 hr
    exact ⟨i, by omega, fun e => hk ((lay_key hB h h0 h1 hi).2 e), by simpa using hl⟩
  · rintro ⟨i, hi, hk, hl⟩
    exact ⟨_, (lay_mem h).2 ⟨i, by omega, rfl⟩, fun e => hk ((lay_key hB h h0 h1 (by omega)).1 e), by simp only [List.length_cons]; omega⟩
theorem postQ_len (Q : Tab) (c id t p : Int) : (postQ Q c id t p).length = Q.length := by simp [postQ]
theorem takeQ_len (Q : Tab) (c : Int) : (takeQ Q c).length = Q.length := by simp [takeQ]
theorem post_row {Q : Tab} {c id t p : Int} {i : Nat} (hi : i < Q.length) : (postQ Q c id t p).getD i [] = if (i : Int) = c then Q.getD i [] else Q.getD i [] ++ [id, t, p] := by
  unfold postQ
  simp only [List.getD_eq_getElem?_getD, List.getElem?_mapIdx, List.getElem?_eq_getElem hi, Option.map_some, Option.getD_some]
theorem take_row {Q : Tab} {c : Int} {i : Nat} (h0 : 0 ≤ c) (hi : i < Q.length) : (takeQ Q c).getD i [] = if (i : Int) = c then (Q.getD i []).drop 3 else Q.getD i [] := by
  unfold takeQ
  simp only [List.getD_eq_getElem?_getD, List.getElem?_modify, List.getElem?_eq_getElem hi, Option.map_eq_map, Option.map_some, Option.getD_some]
  by_cases e : c.toNat = i
  · rw [if_pos e, if_pos (by omega)]
  · rw [if_neg e, if_neg (by omega)]
theorem lay_post {B Q : Tab} (hB : okB B = true) (h : Q.length = B.length) {c id t p : Int} (h0 : 0 ≤ c) (h1 : c < B.length) : postT (layT B Q) c id t p = layT B (postQ Q c id t p) := by
  apply List.ext_getElem?
  intro i
  unfold postT
  rw [List.getElem?_map]
  by_cases hi : i < B.length
  · rw [lay_get h hi, lay_get (by rw [postQ_len, h]) hi, post_row (by omega), Option.map_some]
    have : hdK (hdK (B.getD i []) :: Q.getD i []) = hdK (B.getD i []) := rfl
    rw [this]
    by_cases e : (i : Int) = c
    · rw [if_pos e, if_pos ((lay_key hB h h0 h1 hi).2 e)]
    · rw [if_neg e, if_neg (fun e' => e ((lay_key hB h h0 h1 hi).1 e'))]; rfl
  · rw [List.getElem?_eq_none (by rw [lay_len h]; omega), List.getElem?_eq_none (by rw [lay_len (by rw [postQ_len, h])]; omega)]; rfl
theorem lay_take {B Q : Tab} (hB : okB B = true) (h : Q.length = B.length) {c : Int} (h0 : 0 ≤ c) (h1 : c < B.length) : takeT (layT B Q) c = layT B (takeQ Q c) := by
  apply List.ext_getElem?
  intro i
  unfold takeT rcvT
  rw [List.getElem?_map]
  by_cases hi : i < B.length
  · rw [lay_get h hi, lay_get (by rw [takeQ_len, h]) hi, take_row h0 (by omega), Option.map_some]
    have : hdK (hdK (B.getD i []) :: Q.getD i []) = hdK (B.getD i []) := rfl
    rw [this]
    by_cases e : (i : Int) = c
    · rw [if_pos e, if_pos ((lay_key hB h h0 h1 hi).2 e)]; rfl
    · rw [if_neg e, if_neg (fun e' => e ((lay_key hB h h0 h1 hi).1 e'))]
  · rw [List.getElem?_eq_none (by rw [lay_len h]; omega), List.getElem?_eq_none (by rw [lay_len (by rw [takeQ_len, h])]; omega)]; rfl
/-- New boxes: one more. -/
theorem ok_more {B M : Tab} {x : Int} (h : okB B = true) (hM : M.map hdK = B.map hdK) (h1 : 1 ≤ x) (h2 : ((findK M x).length : Int) = 0) : okB (B ++ [[x]]) = true := by
  obtain ⟨g1, g2⟩ := ok_iff.1 h
  refine ok_iff.2 ⟨?_, fun r hr => ?_⟩
  · rw [List.map_append, List.nodup_append]
    refine ⟨g1, by simp, fun a ha b hb e => ?_⟩
    rw [← hM] at ha g1
    obtain ⟨r, hr, rfl⟩ := List.mem_map.1 ha
    simp [hdK] at hb
    subst hb
    have hf := findK_nd g1 hr
    unfold hdK at hf e
    rw [e] at hf
    rw [hf] at h2
    simp at h2
  · rcases List.mem_append.1 hr with hr | hr
    · exact g2 r hr
    · rw [List.mem_singleton.1 hr]; rfl
/-- Empty queues. -/
def nilQ (n : Int) : Tab := List.replicate n.toNat []
theorem nilQ_len {n : Int} (h : 0 ≤ n) : ((nilQ n).length : Int) = n := by simp [nilQ]; omega
theorem lay_nil {B : Tab} {n : Int} (hB : okB B = true) (h : n = B.length) : layT B (nilQ n) = B := by
  apply List.ext_getElem?
  intro i
  have hl : (nilQ n).length = B.length := by simp [nilQ, h]
  by_cases hi : i < B.length
  · rw [lay_get hl hi, List.getElem?_eq_getElem hi]
    have := (ok_iff.1 hB).2 B[i] (List.getElem_mem _)
    have e : (nilQ n).getD i [] = [] := by simp [nilQ, List.getD_eq_getElem?_getD, List.getElem?_replicate]; split <;> rfl
    rw [e]
    simp only [List.getD_eq_getElem?_getD, List.getElem?_eq_getElem hi, Option.getD_some]
    rw [← this]
  · rw [List.getElem?_eq_none (by rw [lay_len hl]; omega), List.getElem?_eq_none (by omega)]
theorem stQ_nil (n : Int) : stQ (nilQ n) [] = true := by
  simp only [stQ, Bool.and_eq_true, List.all_eq_true]
  refine ⟨fun q hq => ?_, by simp⟩
  rw [List.eq_of_mem_replicate hq]; rfl
theorem modify_same {α : Type} {f g : α → α} {l : List α} {i j : Nat} (e : i = j) (h : ∀ x, l[i]? = some x → f x = g x) : l.modify i f = l.modify j g := by
  subst e
  apply List.ext_getElem?
  intro k
  simp only [List.getElem?_modify]
  split
  · rename_i e
    subst e
    cases hx : l[i]? with
    | none => rfl
    | some x => simp [h x hx]
  · rfl
end Go.SF.C15
