/- Chapter 15, plain: full boxes, empty boxes. -/
import Derived.Test.YtfngkeegfjihlaaP4
namespace Go.SF.C15
open Go.SF
set_option linter.unusedVariables false

/-! ### ShootFull -/
theorem msgs_len : ∀ (k : Nat) (t : Int), (msgs k t).length = 3 * k
  | 0, t => rfl
  | k + 1, t => by
    have := msgs_len k t
    unfold msgs at *
    rw [List.range_succ, List.flatMap_append, List.length_append, this]
    simp; omega
theorem msgs_succ (k : Nat) (t : Int) : msgs (k + 1) t = msgs k t ++ [(k : Int) + 1, t, (k : Int)] := by
  unfold msgs
  rw [List.range_succ, List.flatMap_append]; simp
theorem seq_get {n k t : Int} (hn : 2 ≤ n) {i : Nat} (hi : (i : Int) < n) : (seqQ n k t).getD i [] = if i = 0 then [] else msgs k.toNat t := by
  unfold seqQ
  cases i with
  | zero => rfl
  | succ i =>
    rw [List.getD_cons_succ, if_neg (by omega), List.getD_eq_getElem?_getD, List.getElem?_replicate, if_pos (by omega)]; rfl
theorem seq_len {n k t : Int} (hn : 2 ≤ n) : ((seqQ n k t).length : Int) = n := by simp [seqQ]; omega
theorem ext_get {A B : Tab} (h : A.length = B.length) (hg : ∀ i, i < A.length → A.getD i [] = B.getD i []) : A = B := by
  apply List.ext_getElem h
  intro i h1 h2
  have := hg i h1
  simpa [List.getD_eq_getElem?_getD, h1, h2] using this
theorem full_iff {Q : Tab} {c : Int} : fullQ Q c = true ↔ ∃ i, i < Q.length ∧ (i : Int) ≠ c ∧ (Q.getD i []).length = 48 := by
  simp only [fullQ, List.any_eq_true, List.mem_range, Bool.and_eq_true, Bool.not_eq_true', decide_eq_false_iff_not, decide_eq_true_eq]
theorem full_seq {n k t : Int} (hn : 2 ≤ n) (h0 : 0 ≤ k) (hk : k < 16) : fullQ (seqQ n k t) 0 = false := by
  rw [Bool.eq_false_iff]
  intro h
  obtain ⟨i, h1, h2, h3⟩ := full_iff.1 h
  have hl := seq_len (k := k) (t := t) hn
  rw [seq_get hn (by omega), if_neg (by omega), msgs_len] at h3
  omega
theorem seq_post {n k t : Int} (hn : 2 ≤ n) (h0 : 0 ≤ k) : postQ (seqQ n k t) 0 (k + 1) t k = seqQ n (k + 1) t := by
  have hl := seq_len (k := k) (t := t) hn
  have hl' := seq_len (k := k + 1) (t := t) hn
  refine ext_get (by rw [postQ_len]; omega) fun i hi => ?_
  rw [postQ_len] at hi
  rw [post_row hi, seq_get hn (by omega), seq_get hn (by omega)]
  by_cases e : i = 0
  · subst e; rfl
  · rw [if_neg (by omega), if_neg e, if_neg e, show (k + 1).toNat = k.toNat + 1 by omega, msgs_succ, show ((k.toNat : Nat) : Int) = k by omega]
theorem seq_zero {n t : Int} (hn : 2 ≤ n) : List.replicate n.toNat [] = seqQ n 0 t := by
  unfold seqQ
  rw [show n.toNat = (n - 1).toNat + 1 by omega, List.replicate_succ]; rfl
theorem rep_snoc {k x : Int} (h0 : 0 ≤ k) : List.replicate k.toNat [x] ++ [[x]] = List.replicate (k + 1).toNat [x] := by
  rw [show (k + 1).toNat = k.toNat + 1 by omega, List.replicate_succ']
theorem tak_len {n c t : Int} (hn : 2 ≤ n) : ((takS n c t).length : Int) = n := by simp [takS]; omega
theorem tak_get {n c t : Int} {i : Nat} (hi : (i : Int) < n) : (takS n c t).getD i [] = if i = 0 then [] else if (i : Int) < c then (msgs 16 t).drop 3 else msgs 16 t := by
  unfold takS
  simp [List.getD_eq_getElem?_getD, (by omega : i < n.toNat)]
theorem tak_one {n t : Int} (hn : 2 ≤ n) : seqQ n 16 t = takS n 1 t := by
  have h1 := seq_len (k := 16) (t := t) hn
  have h2 := tak_len (c := 1) (t := t) hn
  refine ext_get (by omega) fun i hi => ?_
  rw [seq_get hn (by omega), tak_get (by omega)]
  by_cases e : i = 0
  · rw [if_pos e, if_pos e]
  · rw [if_neg e, if_neg e, if_neg (by omega)]; rfl
theorem takO_one (n : Int) : List.replicate (16 : Int).toNat [n - 1] = takO n 1 := rfl
theorem tak_row {n c t : Int} (hn : 2 ≤ n) (h1 : 1 ≤ c) (h2 : c < n) : rowL (takS n c t) c = msgs 16 t := by
  unfold rowL
  rw [tak_get (by omega), if_neg (by omega), if_neg (by omega)]
theorem tak_lenQ {n c t : Int} (hn : 2 ≤ n) (h1 : 1 ≤ c) (h2 : c < n) : lenQ (takS n c t) c = 16 := by
  unfold lenQ
  rw [tak_row hn h1 h2, msgs_len]; rfl
theorem tak_msg {n c t : Int} (hn : 2 ≤ n) (h1 : 1 ≤ c) (h2 : c < n) : msgQ (takS n c t) c 0 = 1 ∧ msgQ (takS n c t) c 1 = t ∧ msgQ (takS n c t) c 2 = 0 := by
  unfold msgQ
  rw [tak_row hn h1 h2]
  exact ⟨rfl, rfl, rfl⟩
theorem tak_full {n c t : Int} (hn : 2 ≤ n) (h1 : 1 ≤ c) (h2 : c < n) : fullQ (takS n c t) 0 = true := by
  have hl := tak_len (c := c) (t := t) hn
  refine full_iff.2 ⟨c.toNat, by omega, by omega, ?_⟩
  rw [tak_get (by omega), if_neg (by omega), if_neg (by omega), msgs_len]
theorem tak_take {n c t : Int} (hn : 2 ≤ n) (h1 : 1 ≤ c) (h2 : c < n) : takeQ (takS n c t) c = takS n (c + 1) t := by
  have hl := tak_len (c := c) (t := t) hn
  have hl' := tak_len (c := c + 1) (t := t) hn
  refine ext_get (by rw [takeQ_len]; omega) fun i hi => ?_
  rw [takeQ_len] at hi
  rw [take_row (by omega) hi, tak_get (by omega), tak_get (by omega)]
  by_cases e : i = 0
  · subst e; rw [if_neg (by omega)]; rfl
  · rw [if_neg e, if_neg e]
    by_cases e2 : (i : Int) = c
    · rw [if_pos e2, if_neg (by omega), if_pos (by omega)]
    · rw [if_neg e2]
      by_cases e3 : (i : Int) < c
      · rw [if_pos e3, if_pos (by omega)]
      · rw [if_neg e3, if_neg (by omega)]
theorem tak_dec (n c : Int) : decT (takO n c) 1 = takO n (c + 1) := by
  unfold decT takO
  show [n - c - 1] :: _ = _
  rw [show n - c - 1 = n - (c + 1) by omega]
theorem tak_done (n c : Int) : doneB (decT (takO n c) 1) 1 = decide (n - (c + 1) = 0) := by
  rw [tak_dec]; rfl
theorem tak_end {n t : Int} (hn : 2 ≤ n) : fullQ (takS n n t) 0 = false := by
  rw [Bool.eq_false_iff]
  intro h
  obtain ⟨i, h1, h2, h3⟩ := full_iff.1 h
  have hl := tak_len (c := n) (t := t) hn
  rw [tak_get (by omega), if_neg (by omega), if_pos (by omega), List.length_drop, msgs_len] at h3
  omega
theorem tak_waits {n t id p : Int} (hn : 2 ≤ n) : lenQ (postQ (takS n n t) 0 id t p) 0 = 0 := by
  have hl := tak_len (c := n) (t := t) hn
  have e : rowL (postQ (takS n n t) 0 id t p) 0 = [] := by
    show (postQ (takS n n t) 0 id t p).getD 0 [] = []
    rw [post_row (by omega), if_pos (by rfl), tak_get (by omega)]; rfl
  unfold lenQ
  rw [e]; rfl
theorem tak_open {n : Int} (hn : 2 ≤ n) : ((openT (takO n n ++ [[n - 1]]) 0).length : Int) = 16 := by
  have h : 0 < n - 1 := by omega
  have h2 : ¬ 0 < n - n := by omega
  have h3 : 1 < n := by omega
  simp [openT, takO, openN, h3, List.replicate]

/-! ### ShootEnds -/
theorem empty_iff {Q : Tab} {c : Int} : emptyB Q c = true ↔ ∀ i, i < Q.length → (i : Int) < c → Q.getD i [] = [] := by
  simp only [emptyB, List.all_eq_true, decide_eq_true_eq]
  constructor
  · intro h i h1 h2
    have : i < (Q.take c.toNat).length := by rw [List.length_take]; omega
    have := h ((Q.take c.toNat)[i]) (List.getElem_mem _)
    rw [List.getElem_take] at this
    simpa [List.getD_eq_getElem?_getD, h1] using this
  · intro h q hq
    obtain ⟨i, hi, rfl⟩ := List.mem_iff_getElem.1 hq
    rw [List.length_take] at hi
    have := h i (by omega) (by omega)
    rw [List.getElem_take]
    simpa [List.getD_eq_getElem?_getD, (by omega : i < Q.length)] using this
theorem empty_zero (Q : Tab) : emptyB Q 0 = true := empty_iff.2 fun i _ h => by omega
theorem empty_take {Q : Tab} {c : Int} (h0 : 0 ≤ c) (h : emptyB Q c = true) : emptyB (takeQ Q c) c = true := by
  refine empty_iff.2 fun i hi hc => ?_
  rw [takeQ_len] at hi
  rw [take_row h0 hi, if_neg (by omega)]
  exact empty_iff.1 h i hi hc
theorem stq_row {Q O : Tab} (h : stQ Q O = true) {c : Int} (h0 : 0 ≤ c) (h1 : c < Q.length) : (rowL Q c).length % 3 = 0 ∧ (rowL Q c).length ≤ 48 := by
  simp only [stQ, Bool.and_eq_true, List.all_eq_true] at h
  have := rowQ_iff (x := 0).1 (h.1 _ (row_mem h0 h1))
  have h1 := this.div; have h2 := this.le
  simp only [List.length_cons, Nat.add_sub_cancel] at h1 h2
  omega
theorem len_take {Q O : Tab} (h : stQ Q O = true) {c : Int} (h0 : 0 ≤ c) (h1 : c < Q.length) (h2 : 0 < lenQ Q c) : lenQ (takeQ Q c) c = lenQ Q c - 1 := by
  have h3 := stq_row h h0 h1
  have h2' : 0 < ((rowL Q c).length : Int) / 3 := h2
  show ((rowL (takeQ Q c) c).length : Int) / 3 = ((rowL Q c).length : Int) / 3 - 1
  have e : rowL (takeQ Q c) c = (rowL Q c).drop 3 := by
    unfold rowL
    rw [take_row h0 (by omega), if_pos (by omega)]
  rw [e, List.length_drop]
  omega
theorem len_le {Q O : Tab} (h : stQ Q O = true) {c : Int} (h0 : 0 ≤ c) (h1 : c < Q.length) : lenQ Q c ≤ 16 ∧ 0 ≤ lenQ Q c := by
  have := stq_row h h0 h1
  have e : lenQ Q c = ((rowL Q c).length : Int) / 3 := rfl
  rw [e]
  generalize (rowL Q c).length = n at *
  omega
theorem empty_more {Q O : Tab} (h : stQ Q O = true) {c : Int} (h0 : 0 ≤ c) (h1 : c < Q.length) (he : emptyB Q c = true) (hl : lenQ Q c = 0) : emptyB Q (c + 1) = true := by
  refine empty_iff.2 fun i hi hc => ?_
  by_cases e : (i : Int) < c
  · exact empty_iff.1 he i hi e
  · have := stq_row h h0 h1
    have hl : ((rowL Q c).length : Int) / 3 = 0 := hl
    have e2 : rowL Q c = Q.getD i [] := by unfold rowL; rw [show c.toNat = i by omega]
    rw [← e2]
    exact List.eq_nil_of_length_eq_zero (by omega)
theorem openN_nil (O : Tab) : ∀ (n i : Nat), (∀ j, i ≤ j → j < i + n → ¬ 0 < (O.getD j []).getD 0 0) → openN O n i = []
  | 0, i, _ => rfl
  | n + 1, i, h => by
    unfold openN
    rw [if_neg (h i (Nat.le_refl _) (by omega)), openN_nil O n (i + 1) fun j h1 h2 => h j (by omega) (by omega)]; rfl
theorem open_none {Q O : Tab} (h : stQ Q O = true) (he : emptyB Q Q.length = true) : openT O 0 = [] := by
  unfold openT
  refine openN_nil O _ _ fun j h1 h2 => ?_
  have hj : j < O.length := by omega
  simp only [stQ, Bool.and_eq_true, List.all_eq_true, decide_eq_true_eq, List.mem_range] at h
  rw [h.2 j hj]
  have : cntQ Q ((j : Int) + 1) = 0 := by
    unfold cntQ
    rw [List.countP_eq_zero.2]
    · rfl
    · intro q hq
      obtain ⟨i, hi, rfl⟩ := (q_mem (B := Q) rfl).1 hq
      rw [empty_iff.1 he i hi (by omega)]
      simp [idsT]
  omega
end Go.SF.C15
