/- The document's queues, credits and timers, in plain Lean. -/
import Derived.Test.YtnhdohhhgfdhfaaPQ4
import Derived.Test.YtnhdohhhgfdhfaaP
namespace Go.SF.C17
open Go.SF
set_option linter.unusedVariables false
variable {T A : Tab} {c b id i x : Int}

theorem best_one (h : 1 ≤ (T.length : Int)) (s : Int) : bestF s T 0 0 = bestF s T 1 0 := by
  rw [best_step (by omega) (by omega)]
  have : betB s T 0 0 = false := by unfold betB; split <;> simp
  rw [this]; rfl
theorem low_of {M : Tab} (h : invB T M 64 = true) : C21.low8 T = true := by
  have := inv_iff.1 h
  exact inv_iff.2 ⟨this.1, this.2.1, .refl _⟩
theorem low_row (h : C21.low8 T = true) (h0 : 0 ≤ c) (h1 : c < T.length) : lenR T c ≤ 64 := inv_row h h0 h1
theorem low_new {n : Int} : C21.low8 (List.replicate n.toNat []) = true := low_of (inv_new (by decide))
theorem low_cut (h : C21.low8 T = true) (h0 : 0 ≤ c) (h1 : c < T.length) (hi : 0 ≤ i) (hr : i < lenR T c) : C21.low8 (cutT T c i) = true := low_of (inv_cut h h0 h1 hi hr).1
theorem low_lay (h : C21.low8 T = true) (hk : hasB T id = false) (h0 : 0 ≤ c) (h1 : c < T.length) (hr : lenR T c < 64) : C21.low8 (layT T c id) = true := low_of (inv_lay h hk h0 h1 hr)
theorem low_drop (h : C21.low8 T = true) : C21.low8 (dropT T id) = true := by
  unfold dropT
  split
  · rename_i hk
    have := cpu_row hk
    have ha := at_row hk
    exact low_cut h this.1 this.2.1 ha.1 ha.2.1
  · exact h
theorem low_push (h : C21.low8 T = true) : C21.low8 (pushT T c id 64) = true := by
  unfold pushT
  split
  · rename_i he
    unfold pushE at he
    split at he
    · cases he
    · split at he
      · cases he
      · split at he
        · cases he
        · rename_i hk
          split at he
          · cases he
          · have := low_row h (c := c) (by omega) (by omega)
            exact low_lay h (by simpa using hk) (by omega) (by omega) (by omega)
  · exact h
theorem low_pop (h : C21.low8 T = true) (hT : 1 ≤ (T.length : Int)) (h0 : 0 ≤ c) (h1 : c < T.length) (ha : anyB T = true) : C21.low8 (popT T c) = true := by
  have hb := long_in hT
  by_cases hl : 0 < lenR T c
  · rw [(pop_own hl).2.1]
    exact low_cut h h0 h1 (by omega) hl
  · rw [(pop_long hl).2.1]
    have hp := lenR_pos T (bestF 1 T 0 0)
    by_cases hz : lenR T (bestF 1 T 0 0) = 0
    · rw [any_not hT hz] at ha; cases ha
    · exact low_cut h hb.1 hb.2 (by omega) (by omega)
theorem cut_first (h0 : 0 ≤ c) : setT T c (List.drop (Int.toNat 1) (rowT T c)) = cutT T c 0 := by
  have := cut_eq T c 0 (by omega)
  rw [show (0 : Int).toNat = 0 from rfl, List.take_zero, List.nil_append] at this
  exact this
theorem cut_last (hl : 1 ≤ lenR T c) : setT T c (List.take (lenR T c - 1).toNat (rowT T c)) = cutT T c (lenR T c - 1) := by
  have := cut_eq T c (lenR T c - 1) (by omega)
  rw [List.drop_of_length_le (by rw [rowT_len]; unfold lenR; omega), List.append_nil] at this
  exact this
/-! ### where an id is, from CPU c on -/
theorem dropS (h0 : 0 ≤ c) (h1 : c < T.length) : T.drop c.toNat = T.getD c.toNat [] :: T.drop (c + 1).toNat := by
  rw [show (c + 1).toNat = c.toNat + 1 by omega, List.getD_eq_getElem?_getD, List.getElem?_eq_getElem (by omega)]
  exact List.drop_eq_getElem_cons (by omega)
theorem has_step (h0 : 0 ≤ c) (h1 : c < T.length) : C21.hasG T id c = ((rowL T c).contains id || C21.hasG T id (c + 1)) := by
  unfold C21.hasG hasB
  rw [dropS h0 h1]; rfl
theorem has_end (h1 : ¬ c < T.length) : C21.hasG T id c = false := by
  unfold C21.hasG
  rw [List.drop_of_length_le (by omega)]; rfl
theorem cpu_here (h0 : 0 ≤ c) (h1 : c < T.length) (h : (rowL T c).contains id = true) : C21.cpuG T id c = c := by
  unfold C21.cpuG cpuF
  rw [dropS h0 h1, List.findIdx_cons]
  rw [show T.getD c.toNat [] = rowL T c from rfl, h]; simp
theorem cpu_next (h0 : 0 ≤ c) (h1 : c < T.length) (h : (rowL T c).contains id = false) : C21.cpuG T id c = C21.cpuG T id (c + 1) := by
  unfold C21.cpuG cpuF
  rw [dropS h0 h1, List.findIdx_cons]
  rw [show T.getD c.toNat [] = rowL T c from rfl, h]
  simp only [cond_false]
  omega
theorem at_has (h : (atG T c id 0 : Int) < lenR T c) : (rowL T c).contains id = true := by
  unfold atG lenR at h
  rw [show (0 : Int).toNat = 0 from rfl, List.drop_zero] at h
  exact List.contains_iff_mem.2 (List.idxOf_lt_length_iff.1 (by omega))
theorem at_not (h : lenR T c ≤ (atG T c id 0 : Int)) : (rowL T c).contains id = false := by
  unfold atG lenR at h
  rw [show (0 : Int).toNat = 0 from rfl, List.drop_zero] at h
  rw [Bool.eq_false_iff]
  intro hc
  have := List.idxOf_lt_length_iff.2 (List.contains_iff_mem.1 hc)
  omega
theorem hasG_0 : C21.hasG T id 0 = hasB T id := rfl
theorem cpuG_0 : C21.cpuG T id 0 = cpuF T id := by unfold C21.cpuG; simp
theorem at_end (h : lenR T c ≤ i) : lenR T c ≤ atG T c id i := by have := atG_ge (T := T) (c := c) (id := id) (i := i); omega
end Go.SF.C17
