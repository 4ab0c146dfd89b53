/- What Pin, Unpin, Retire and the laws of chapter 10 need, in plain Lean. -/
import Derived.Test.YtfcakaakdeakpaaI
namespace Go.SF.C10
open Go.SF
set_option linter.unusedVariables false
set_option linter.unusedSimpArgs false

theorem pin_range {P : Tab} {c : Int} (now : Int) (h : c < 0 ∨ (P.length : Int) ≤ c) : pinI P c = 2 ∧ pinL P c now = P := by
  have e : pinI P c = 2 := if_pos h
  exact ⟨e, if_neg (by rw [e]; decide)⟩
theorem pin_state {P : Tab} {c : Int} (now : Int) (h0 : 0 ≤ c) (h1 : c < P.length) (h : ¬ (P.getD c.toNat []).getD 0 0 = -1) : pinI P c = 6 ∧ pinL P c now = P := by
  have e : pinI P c = 6 := by unfold pinI; rw [if_neg (by omega), if_neg h]
  exact ⟨e, if_neg (by rw [e]; decide)⟩
theorem pin_ok {P : Tab} {c : Int} (now : Int) (h0 : 0 ≤ c) (h1 : c < P.length) (h : (P.getD c.toNat []).getD 0 0 = -1) : pinI P c = 0 ∧ pinL P c now = P.modify c.toNat fun r => r.set 0 now := by
  have e : pinI P c = 0 := by unfold pinI; rw [if_neg (by omega), if_pos h]
  exact ⟨e, if_pos e⟩
theorem unp_range {P : Tab} {c : Int} (h : c < 0 ∨ (P.length : Int) ≤ c) : unpI P c = 2 ∧ unpL P c = P := by
  have e : unpI P c = 2 := if_pos h
  exact ⟨e, if_neg (by rw [e]; decide)⟩
theorem unp_state {P : Tab} {c : Int} (h0 : 0 ≤ c) (h1 : c < P.length) (h : (P.getD c.toNat []).getD 0 0 = -1) : unpI P c = 6 ∧ unpL P c = P := by
  have e : unpI P c = 6 := by unfold unpI; rw [if_neg (by omega), if_pos h]
  exact ⟨e, if_neg (by rw [e]; decide)⟩
theorem unp_ok {P : Tab} {c : Int} (h0 : 0 ≤ c) (h1 : c < P.length) (h : ¬ (P.getD c.toNat []).getD 0 0 = -1) : unpI P c = 0 ∧ unpL P c = P.modify c.toNat fun r => r.set 0 (-1) := by
  have e : unpI P c = 0 := by unfold unpI; rw [if_neg (by omega), if_neg h]
  exact ⟨e, if_pos e⟩
theorem pinL_len (P : Tab) (c now : Int) : (pinL P c now).length = P.length := by
  unfold pinL; split
  · exact List.length_modify ..
  · rfl
theorem unpL_len (P : Tab) (c : Int) : (unpL P c).length = P.length := by
  unfold unpL; split
  · exact List.length_modify ..
  · rfl
theorem ret_arg {A : Tab} {f : Int} (now : Int) (h : f < 0) : retI A f = 1 ∧ retL A f now = A := by
  have e : retI A f = 1 := if_pos h
  exact ⟨e, if_neg (by rw [e]; decide)⟩
theorem ret_ok {A : Tab} {f : Int} (now : Int) (h : 0 ≤ f) (h1 : (findK A f).length = 0) : retI A f = 0 ∧ retL A f now = putK A [f, now] := by
  have e : retI A f = 0 := by unfold retI; rw [if_neg (by omega), if_pos h1]
  exact ⟨e, if_pos e⟩
theorem ret_twice {A : Tab} {f : Int} (now : Int) (h : 0 ≤ f) (h1 : ¬ (findK A f).length = 0) : retI A f = 5 ∧ retL A f now = A := by
  have e : retI A f = 5 := by unfold retI; rw [if_neg (by omega), if_neg h1]
  exact ⟨e, if_neg (by rw [e]; decide)⟩
theorem putK_len (A : Tab) (row : List Int) : (putK A row).length ≤ A.length + 1 := by
  have h : ∀ A : Tab, (A.filter fun r => decide (hdK r < hdK row)).length + (A.filter fun r => decide (hdK row < hdK r)).length ≤ A.length := fun A => by
    induction A with
    | nil => simp
    | cons r A ih => simp only [List.filter_cons]; split <;> split <;> simp_all <;> omega
  have := h A
  unfold putK
  simp only [List.length_append, List.length_cons]
  omega
theorem retL_len (A : Tab) (f now : Int) : (retL A f now).length ≤ A.length + 1 := by
  unfold retL; split
  · exact putK_len ..
  · omega

/-! ### rows that were changed -/
theorem mem_modify {f : List Int → List Int} : ∀ {A : Tab} {n : Nat} {r : List Int}, r ∈ A.modify n f → r ∈ A ∨ ∃ s ∈ A, r = f s
  | [], n, r, h => by simp at h
  | a :: A, 0, r, h => by
    rw [List.modify_zero_cons] at h
    rcases List.mem_cons.1 h with rfl | h
    · exact .inr ⟨a, by simp, rfl⟩
    · exact .inl (List.mem_cons_of_mem _ h)
  | a :: A, n + 1, r, h => by
    rw [List.modify_succ_cons] at h
    rcases List.mem_cons.1 h with rfl | h
    · exact .inl (by simp)
    · rcases mem_modify h with h | ⟨s, hs, e⟩
      · exact .inl (List.mem_cons_of_mem _ h)
      · exact .inr ⟨s, List.mem_cons_of_mem _ hs, e⟩
theorem all_modify {p : List Int → Bool} {f : List Int → List Int} {A : Tab} {n : Nat} (h : A.all p = true) (hf : ∀ s ∈ A, p (f s) = true) : (A.modify n f).all p = true := by
  rw [List.all_eq_true] at *
  intro r hr
  rcases mem_modify hr with hr | ⟨s, hs, rfl⟩
  · exact h r hr
  · exact hf s hs
theorem set_row {k : CK} {r : List Int} (h : okRow [k] r) (x : Int) : r.set 0 x = [x] := by
  match r, h with
  | [a], _ => rfl
section
variable {P : Tab} {c now : Int} {k : CK} (hr : ∀ r ∈ P, okRow [k] r)
include hr
theorem pins_pin (h : pinsB P now = true) (h0 : 0 ≤ now) : pinsB (pinL P c now) now = true := by
  unfold pinL; split
  · exact all_modify h fun s hs => by rw [set_row (hr s hs)]; simp; omega
  · exact h
theorem pins_unp (h : pinsB P now = true) (h0 : 0 ≤ now) : pinsB (unpL P c) now = true := by
  unfold unpL; split
  · exact all_modify h fun s hs => by rw [set_row (hr s hs)]; simp; omega
  · exact h
theorem near_pin (h : nearB P now = true) : nearB (pinL P c now) now = true := by
  unfold pinL; split
  · exact all_modify h fun s hs => by rw [set_row (hr s hs)]; simp; omega
  · exact h
theorem near_unp (h : nearB P now = true) : nearB (unpL P c) now = true := by
  unfold unpL; split
  · exact all_modify h fun s hs => by rw [set_row (hr s hs)]; simp
  · exact h
theorem off_unp (h : offB P c = true) (h0 : 0 ≤ c) (h1 : c < P.length) : offB (unpL P c) (c + 1) = true := by
  have hk : c.toNat < P.length := by omega
  have e1 : (c + 1).toNat = c.toNat + 1 := by omega
  have hrow : ∀ Q : Tab, Q.take c.toNat = P.take c.toNat → Q[c.toNat]? = some [-1] → offB Q (c + 1) = true := fun Q e g => by
    unfold offB at *
    rw [e1, List.take_add_one, e, List.all_append, h, g]; rfl
  by_cases hc : (P.getD c.toNat []).getD 0 0 = -1
  · rw [(unp_state h0 h1 hc).2]
    refine hrow P rfl ?_
    rw [List.getElem?_eq_getElem hk]
    have := row1 (hr _ (List.getElem_mem hk))
    simp only [List.getD, List.getElem?_eq_getElem hk, Option.getD_some] at hc this
    rw [← this, hc]
  · rw [(unp_ok h0 h1 hc).2]
    refine hrow _ ?_ ?_
    · rw [List.take_modify]; exact List.modify_eq_self (by simp; omega)
    · rw [List.getElem?_modify, List.getElem?_eq_getElem hk]; simp [set_row (hr _ (List.getElem_mem hk))]
end
theorem off_none (P : Tab) : offB P 0 = true := rfl
theorem off_all {P : Tab} (h : offB P 4 = true) (hl : (P.length : Int) = 4) : P = [[-1], [-1], [-1], [-1]] := by
  match P, hl with
  | [a, b, c, d], _ => simpa [offB] using h
theorem pins_next {P : Tab} {now : Int} (h : pinsB P now = true) : pinsB P (now + 1) = true := by
  unfold pinsB at *
  rw [List.all_eq_true] at *
  intro r hr
  have := h r hr
  simp at this ⊢
  omega
theorem pins_at {P : Tab} {now c : Int} (h : pinsB P now = true) (h0 : 0 ≤ c) (h1 : c < P.length) : -1 ≤ (P.getD c.toNat []).getD 0 0 ∧ (P.getD c.toNat []).getD 0 0 ≤ now := by
  have := List.all_eq_true.1 h _ (getD_mem h0 h1)
  rw [Bool.and_eq_true, decide_eq_true_eq, decide_eq_true_eq] at this
  exact this
theorem near_at {P : Tab} {now c : Int} (h : nearB P now = true) (h0 : 0 ≤ c) (h1 : c < P.length) : (P.getD c.toNat []).getD 0 0 = -1 ∨ (now - 1 ≤ (P.getD c.toNat []).getD 0 0 ∧ (P.getD c.toNat []).getD 0 0 ≤ now) := by
  have := List.all_eq_true.1 h _ (getD_mem h0 h1)
  rw [Bool.or_eq_true, Bool.and_eq_true, decide_eq_true_eq, decide_eq_true_eq, decide_eq_true_eq] at this
  exact this
theorem late_near {P : Tab} {now : Int} (h : lateB (P.drop (0 : Int).toNat) now = false) : nearB P (now + 1) = true := by
  rw [show (0 : Int).toNat = 0 from rfl, List.drop_zero] at h
  unfold nearB
  rw [List.all_eq_true]
  intro r hr
  have := List.any_eq_false.1 h r hr
  simp at this ⊢
  by_cases e : r.getD 0 0 = -1
  · exact .inl (by simpa using e)
  · have := this (by simpa using e); right; omega
theorem past_ret {A : Tab} {f now : Int} (h : pastB A now = true) (h0 : 0 ≤ now) : pastB (retL A f now) now = true := by
  unfold retL; split
  · unfold pastB at *
    rw [List.all_eq_true] at *
    intro r hr
    rcases putK_mem hr with rfl | hr
    · simp; exact h0
    · exact h r hr
  · exact h
theorem past_next {A : Tab} {now : Int} (h : pastB A now = true) : pastB A (now + 1) = true := by
  unfold pastB at *
  rw [List.all_eq_true] at *
  intro r hr
  have := h r hr
  simp at this ⊢
  omega
theorem old_all {A : Tab} {now : Int} (h : pastB A now = true) (hn : now < 1000000) : ∀ r ∈ A, oldP (now + 2) r = true := by
  intro r hr
  have := List.all_eq_true.1 h r hr
  rw [Bool.and_eq_true, decide_eq_true_eq, decide_eq_true_eq] at this
  unfold oldP
  rw [wrap_in (by simp only [kmin]; omega) (by simp only [kmax]; omega)]
  exact decide_eq_true (by omega)
theorem key_old {A : Tab} {now : Int} (h : pastB A now = true) (hn : now < 1000000) : keyT (oldP (now + 2)) A = keyT allP A := by
  unfold keyT
  rw [List.filter_eq_self.2 (old_all h hn), show A.filter allP = A from List.filter_eq_self.2 fun _ _ => rfl]
theorem keep_old {A : Tab} {now : Int} (h : pastB A now = true) (hn : now < 1000000) : keepT (oldP (now + 2)) A = [] := by
  unfold keepT
  rw [List.filter_eq_nil_iff]
  intro r hr
  rw [old_all h hn r hr]; simp
theorem flat_ok {k : CK} {P : Tab} (hr : ∀ r ∈ P, okRow [k] r) : flatB P = true := List.all_eq_true.2 fun r h => decide_eq_true (row1 (hr r h))
theorem unp4 {P : Tab} (hf : flatB P = true) (hl : (P.length : Int) = 4) : unpL (unpL (unpL (unpL P 0) 1) 2) 3 = [[-1], [-1], [-1], [-1]] := by
  match P, hl with
  | [a, b, c, d], _ =>
    simp only [flatB, List.all_cons, List.all_nil, Bool.and_true, Bool.and_eq_true, decide_eq_true_eq] at hf
    rw [← hf.1, ← hf.2.1, ← hf.2.2.1, ← hf.2.2.2]
    generalize a.getD 0 0 = x; generalize b.getD 0 0 = y; generalize c.getD 0 0 = z; generalize d.getD 0 0 = u
    have h0 : unpL [[x], [y], [z], [u]] 0 = [[-1], [y], [z], [u]] := by by_cases h : x = -1 <;> simp [unpL, unpI, cell, h]
    have h1 : unpL [[-1], [y], [z], [u]] 1 = [[-1], [-1], [z], [u]] := by by_cases h : y = -1 <;> simp [unpL, unpI, cell, h]
    have h2 : unpL [[-1], [-1], [z], [u]] 2 = [[-1], [-1], [-1], [u]] := by by_cases h : z = -1 <;> simp [unpL, unpI, cell, h]
    have h3 : unpL [[-1], [-1], [-1], [u]] 3 = [[-1], [-1], [-1], [-1]] := by by_cases h : u = -1 <;> simp [unpL, unpI, cell, h]
    rw [h0, h1, h2, h3]
theorem late_off (now : Int) : lateB ([[-1], [-1], [-1], [-1]].drop (0 : Int).toNat) now = false := by
  simp [lateB]

/-- An outcome that cannot be. -/
theorem drop_never {P : Program} {f : Nat} {vs : List AV} {o : List AObj} {pc : List SB} {x y : TOut} (hy : y.pc = [.app 199 .nil]) (h : TmCall Φ P f vs o pc [x, y]) : TmCall Φ P f vs o pc [x] := by
  intro ρ μ B w xs hd hM hp R hR
  refine h ρ μ B w xs hd hM hp R fun eo heo => ?_
  simp only [List.map_cons, List.map_nil, List.mem_cons, List.not_mem_nil, or_false] at heo
  rcases heo with rfl | rfl
  · exact hR _ (by simp)
  · have nev : ∀ ρ' : Env, ¬ holds Φ ρ' y.pc := fun ρ' hh => by
      rw [hy] at hh
      have := hh (.app 199 .nil) (by simp)
      simp only [evB_app, evA_nil] at this
      rw [aB199] at this
      cases this
    cases hg : get 0 y.t with
    | none => exact fun ρ' _ => nev ρ'
    | some v => exact fun ρ' _ hh => absurd hh (nev ρ')

/-! ### Copy -/
theorem vis_flag (A : Tab) : visT (flagT A) = [] := by
  unfold visT flagT
  rw [List.map_eq_nil_iff, List.filter_eq_nil_iff]
  intro r hr
  obtain ⟨s, hs, rfl⟩ := List.mem_map.1 hr
  simp [lastK]
theorem vis_end {M : Tab} (hr : ∀ r ∈ M, okRow K3 r) (h : ¬ (0 : Int) < (remT M).length) : visT M = unflagT M := by
  have h0 : remT M = [] := List.length_eq_zero_iff.1 (by omega)
  have h01 : ∀ r ∈ M, lastK r = 0 ∨ lastK r = 1 := fun r hm => by obtain ⟨a, b, c, rfl, h⟩ := three (hr r hm); exact h
  unfold visT unflagT
  rw [rem_end h0 h01]
theorem two_rows {M : Tab} {x b : Int} (hM : M.Pairwise fun a b => hdK a < hdK b) (hr : ∀ r ∈ M, okRow K3 r) (hm : [x, b, 1] ∈ M) : visT (clrT M x) = putK (visT M) [x, b] := by
  obtain ⟨A, B, rfl⟩ := List.append_of_mem hm
  have hs := List.pairwise_append.1 hM
  have hB := List.pairwise_cons.1 hs.2.1
  have hA : ∀ r ∈ A, hdK r < x := fun r h => hs.2.2 r h [x, b, 1] (by simp)
  have hB' : ∀ r ∈ B, x < hdK r := fun r h => hB.1 r h
  have e1 : clrT A x = A := clr_other fun r h => by have := hA r h; omega
  have e2 : clrT B x = B := clr_other fun r h => by have := hB' r h; omega
  have e3 : clrT (A ++ [x, b, 1] :: B) x = A ++ [x, b, 0] :: B := by
    have : clrT (A ++ [x, b, 1] :: B) x = clrT A x ++ [x, b, 0] :: clrT B x := by simp [clrT, hdK]
    rw [this, e1, e2]
  have e4 : visT (A ++ [x, b, 0] :: B) = visT A ++ [x, b] :: visT B := by simp [visT, lastK]
  have e5 : visT (A ++ [x, b, 1] :: B) = visT A ++ visT B := by simp [visT, lastK]
  have key : ∀ N : Tab, (∀ r ∈ N, okRow K3 r) → ∀ r ∈ visT N, ∃ s ∈ N, hdK r = hdK s := fun N hN r h => by
    obtain ⟨s, hs, rfl⟩ := List.mem_map.1 h
    have hs := (List.mem_filter.1 hs).1
    obtain ⟨a, b, c, rfl, _⟩ := three (hN s hs)
    exact ⟨_, hs, rfl⟩
  have kA : ∀ r ∈ visT A, hdK r < x := fun r h => by
    obtain ⟨s, hs, e⟩ := key A (fun r h => hr r (by simp [h])) r h
    rw [e]; exact hA s hs
  have kB : ∀ r ∈ visT B, x < hdK r := fun r h => by
    obtain ⟨s, hs, e⟩ := key B (fun r h => hr r (by simp [h])) r h
    rw [e]; exact hB' s hs
  rw [e3, e4, e5]
  unfold putK
  rw [List.filter_append, List.filter_append, show hdK [x, b] = x from rfl]
  rw [List.filter_eq_self.2 fun r h => decide_eq_true (kA r h), filter_none (l := visT B) fun r h => decide_eq_false (by have := kB r h; omega),
    filter_none (l := visT A) fun r h => decide_eq_false (by have := kA r h; omega), List.filter_eq_self.2 fun r h => decide_eq_true (kB r h)]
  simp
theorem vis_len (M : Tab) : (visT M).length ≤ M.length := by
  unfold visT
  rw [List.length_map]
  exact List.length_filter_le ..
theorem vis_step {M L : Tab} {x : Int} (hM : M.Pairwise fun a b => hdK a < hdK b) (hr : ∀ r ∈ M, okRow K3 r) (h1 : ((findK M x).length : Int) = 1) (h2 : ((findK M x).getD (0 : Int).toNat []).getD 2 0 = 1) (e : L = visT M) :
    putK L [x, ((findK (clrT M x) x).getD (0 : Int).toNat []).getD 1 0] = visT (clrT M x) := by
  obtain ⟨b, hm, hf⟩ := out_row hM hr h1 h2
  rw [e, find_clr hr hf, two_rows hM hr hm]
  rfl
theorem unflag_len (M : Tab) : (unflagT M).length = M.length := List.length_map _
theorem clrAll_len (M : Tab) : (clrAll M).length = M.length := List.length_map _

/-! ### the document's rows -/
theorem hd_getD (r : List Int) : r.getD 0 0 = hdK r := by cases r <;> rfl
theorem rise_ok {A : Tab} (h : A.Pairwise fun a b => hdK a < hdK b) : riseB A = true := decide_eq_true h
theorem take_step {A : Tab} {i : Int} (h : 0 ≤ i) (hi : i < A.length) : A.take (i + 1).toNat = A.take i.toNat ++ [A.getD i.toNat []] := by
  have hlt : i.toNat < A.length := by omega
  rw [show (i + 1).toNat = i.toNat + 1 by omega, List.take_add_one, List.getElem?_eq_getElem hlt]
  simp [List.getD, List.getElem?_eq_getElem hlt]
theorem take_end {A : Tab} {i : Int} (hi : ¬ i < A.length) : A.take i.toNat = A := List.take_of_length_le (by omega)
abbrev K2 : List CK := [.i .i64, .i .i64]
theorem row2 {row : List Int} (h : okRow K2 row) : [row.getD 0 0, row.getD 1 0] = row := by
  match row, h with
  | [a, b], _ => rfl
theorem rank_step {A : Tab} {f i : Int} (h : 0 ≤ i) (hi : i < A.length) (hc : (A.getD i.toNat []).getD 0 0 < f) : rankI A f i = rankI A f (i + 1) := by
  unfold rankI
  rw [hd_getD] at hc
  rw [drop_step h hi, List.takeWhile_cons, if_pos (decide_eq_true hc), List.length_cons]
  omega
theorem rank_stop {A : Tab} {f i : Int} (h : 0 ≤ i) (hc : ¬ i < A.length ∨ ¬ (A.getD i.toNat []).getD 0 0 < f) : rankI A f i = i := by
  unfold rankI
  by_cases hi : i < A.length
  · have hc := hc.resolve_left (fun x => x hi)
    rw [hd_getD] at hc
    rw [drop_step h hi, List.takeWhile_cons, if_neg (by simpa using hc)]; simp
  · rw [List.drop_of_length_le (by omega)]; simp
theorem take_while (p : List Int → Bool) : ∀ A : Tab, A.take (A.takeWhile p).length = A.takeWhile p ∧ A.drop (A.takeWhile p).length = A.dropWhile p
  | [] => ⟨rfl, rfl⟩
  | a :: A => by
    have := take_while p A
    rw [List.takeWhile_cons, List.dropWhile_cons]
    split
    · exact ⟨by rw [List.length_cons, List.take_succ_cons, this.1], by rw [List.length_cons, List.drop_succ_cons, this.2]⟩
    · exact ⟨rfl, rfl⟩
theorem put_while {f now : Int} : ∀ {A : Tab}, A.Pairwise (fun a b => hdK a < hdK b) → (∀ d, (A.dropWhile fun r => decide (hdK r < f)).head? = some d → hdK d ≠ f) →
    findK A f = [] ∧ putK A [f, now] = (A.takeWhile fun r => decide (hdK r < f)) ++ [f, now] :: A.dropWhile fun r => decide (hdK r < f)
  | [], _, _ => ⟨rfl, rfl⟩
  | a :: A, hA, h => by
    have hA' := List.pairwise_cons.1 hA
    rw [List.dropWhile_cons] at h
    rw [List.takeWhile_cons, List.dropWhile_cons]
    by_cases hc : hdK a < f
    · rw [if_pos (decide_eq_true hc)] at h ⊢
      rw [if_pos (decide_eq_true hc)]
      have ih := put_while (now := now) hA'.2 h
      refine ⟨?_, ?_⟩
      · unfold findK at *
        rw [List.filter_cons, if_neg (by simp; omega), ih.1]
      · unfold putK at *
        rw [List.filter_cons, if_pos (by simpa [hdK] using hc), List.filter_cons (xs := A), if_neg (by rw [decide_eq_true_eq, show hdK [f, now] = f from rfl]; omega), List.cons_append, ih.2]; rfl
    · rw [if_neg (by simpa using hc)] at h ⊢
      rw [if_neg (by simpa using hc)]
      have ha : hdK a ≠ f := h a rfl
      have hall : ∀ r ∈ a :: A, f < hdK r := fun r hr => by
        rcases List.mem_cons.1 hr with rfl | hr
        · omega
        · have := hA'.1 r hr; omega
      refine ⟨?_, ?_⟩
      · unfold findK; exact filter_none fun r hr => decide_eq_false (by have := hall r hr; omega)
      · unfold putK
        rw [show hdK [f, now] = f from rfl, filter_none fun r hr => decide_eq_false (by have := hall r hr; omega), List.filter_eq_self.2 fun r hr => decide_eq_true (hall r hr)]
section
variable {A : Tab} {f : Int}
theorem rank0 (A : Tab) (f : Int) : (rankI A f 0).toNat = (A.takeWhile fun r => decide (hdK r < f)).length := by unfold rankI; simp
theorem doc_none (now : Int) (hA : riseB A = true) (h : ¬ rankI A f 0 < A.length ∨ ¬ (A.getD (rankI A f 0).toNat []).getD 0 0 = f) :
    (findK A f).length = 0 ∧ putK A [f, now] = A.take (rankI A f 0).toNat ++ [f, now] :: A.drop (rankI A f 0).toNat := by
  have hw := take_while (fun r => decide (hdK r < f)) A
  have := put_while (f := f) (now := now) (A := A) (of_decide_eq_true hA) fun d hd e => by
    rw [← hw.2, ← rank0] at hd
    have h0 : 0 ≤ rankI A f 0 := by unfold rankI; omega
    by_cases hl : rankI A f 0 < A.length
    · have h := h.resolve_left fun x => x hl
      rw [drop_step h0 hl] at hd
      simp only [List.head?_cons, Option.some.injEq] at hd
      rw [hd, hd_getD] at h
      exact h e
    · rw [List.drop_of_length_le (by omega)] at hd
      cases hd
  rw [rank0, hw.1, hw.2]
  exact ⟨by rw [this.1]; rfl, this.2⟩
theorem doc_found (h0 : 0 ≤ rankI A f 0) (hl : rankI A f 0 < A.length) (h : (A.getD (rankI A f 0).toNat []).getD 0 0 = f) : ¬ (findK A f).length = 0 := by
  have hm := getD_mem h0 hl
  rw [hd_getD] at h
  have : A.getD (rankI A f 0).toNat [] ∈ findK A f := List.mem_filter.2 ⟨hm, decide_eq_true h⟩
  intro e
  rw [List.length_eq_zero_iff.1 e] at this
  cases this
end
theorem key_one {p : List Int → Bool} {A : Tab} {i : Int} (h : 0 ≤ i) (hi : i < A.length) (hp : p (A.getD i.toNat []) = true) : keyT p (A.take i.toNat) ++ [[(A.getD i.toNat []).getD 0 0]] = keyT p (A.take (i + 1).toNat) := by
  rw [take_step h hi]; unfold keyT
  rw [List.filter_append, List.map_append, List.filter_cons, if_pos hp, hd_getD]; rfl
theorem key_not {p : List Int → Bool} {A : Tab} {i : Int} (h : 0 ≤ i) (hi : i < A.length) (hp : p (A.getD i.toNat []) = false) : keyT p (A.take i.toNat) = keyT p (A.take (i + 1).toNat) := by
  rw [take_step h hi]; unfold keyT
  rw [List.filter_append, List.filter_cons, if_neg (by rw [hp]; simp)]; simp
theorem keep_one {p : List Int → Bool} {A : Tab} {i : Int} (hr : ∀ r ∈ A, okRow K2 r) (h : 0 ≤ i) (hi : i < A.length) (hp : p (A.getD i.toNat []) = false) :
    keepT p (A.take i.toNat) ++ [[(A.getD i.toNat []).getD 0 0, (A.getD i.toNat []).getD 1 0]] = keepT p (A.take (i + 1).toNat) := by
  rw [take_step h hi, row2 (hr _ (getD_mem h hi))]; unfold keepT
  rw [List.filter_append, List.filter_cons, if_pos (by rw [hp]; rfl)]; rfl
theorem keep_not {p : List Int → Bool} {A : Tab} {i : Int} (h : 0 ≤ i) (hi : i < A.length) (hp : p (A.getD i.toNat []) = true) : keepT p (A.take i.toNat) = keepT p (A.take (i + 1).toNat) := by
  rw [take_step h hi]; unfold keepT
  rw [List.filter_append, List.filter_cons, if_neg (by rw [hp]; simp)]; simp
end Go.SF.C10
