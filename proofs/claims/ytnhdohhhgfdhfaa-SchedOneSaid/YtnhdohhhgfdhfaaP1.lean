/- Tick, of one timer that is due, or is not; in plain Lean. -/
import Derived.Test.YtnhdohhhgfdhfaaP
import Derived.Test.YtnhdohhhgfdhfaaPT2
namespace Go.SF.C21
open Go.SF Go.SF.C18
set_option linter.unusedVariables false

variable {T : Tab} {n : Int}
theorem none_1 (x : Int) : noneB [[1, x + 2, 0]] (x + 1) = true := by
  simp only [noneB, List.all_cons, List.all_nil, List.getD_cons_succ, List.getD_cons_zero, Bool.and_true, decide_eq_true_eq]; omega
theorem tickE (h : noneB T n = true) (hk : ∀ r ∈ T, okRow [.i .i64, .i .i64, .i .i64] r) : tickO n [] (flagT T) = [] ∧ unflagT (tickM n (flagT T)) = T := by
  rw [← tickL_flag hk, ← tickT_flag hk]
  have hd : ∀ r ∈ T, dueB n r = false := fun r hr => by
    have := List.all_eq_true.1 h r hr
    simp only [decide_eq_true_eq] at this
    unfold dueB; rw [decide_eq_false_iff_not]; omega
  constructor
  · unfold tickL
    rw [List.filter_eq_nil_iff.2 fun r hr => by rw [hd r hr]; exact Bool.false_ne_true]; rfl
  · unfold tickT
    clear h hk
    induction T with
    | nil => rfl
    | cons r T ih =>
      rw [List.filterMap_cons, show stepR n r = some r by unfold stepR; rw [hd r (List.mem_cons_self ..)]; rfl]
      exact congrArg (r :: ·) (ih fun r hr => hd r (List.mem_cons_of_mem _ hr))
theorem tickD (e : T = [[1, n, 0]]) (hk : ∀ r ∈ T, okRow [.i .i64, .i .i64, .i .i64] r) : tickO n [] (flagT T) = [[1, n, 1]] ∧ unflagT (tickM n (flagT T)) = [] := by
  rw [← tickL_flag hk, ← tickT_flag hk, e]
  have hd : dueB n [1, n, 0] = true := by simp [dueB]
  constructor
  · unfold tickL
    rw [List.filter_cons_of_pos (by rw [hd])]
    simp [fireR, insF, hdK]
  · unfold tickT
    rw [List.filterMap_cons, show stepR n [1, n, 0] = none by unfold stepR; rw [hd]; rfl]; rfl
end Go.SF.C21
