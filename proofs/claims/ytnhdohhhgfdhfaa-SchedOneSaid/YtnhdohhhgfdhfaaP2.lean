/- Credits of one, in plain Lean. -/
import Derived.Test.YtnhdohhhgfdhfaaP1
import Derived.Test.YtnhdohhhgfdhfaaPQ4
namespace Go.SF.C21
open Go.SF Go.SF.C18
set_option linter.unusedVariables false

theorem ch_of {C : Tab} {t : Int} (h : -256 ≤ crI C 0 ∧ crI C 0 ≤ 256) (h0 : 0 ≤ t) (h1 : t ≤ 255) : chI C 0 t = crI C 0 - t := by
  unfold chI
  have e : max 0 (min t 1073741824) = t := by omega
  have w : W (crI C 0 - t) = crI C 0 - t := wrap_in (by simp only [kmin]; omega) (by simp only [kmax]; omega)
  rw [e, w]; omega
theorem rf_of {C : Tab} {q : Int} (hq : 1 ≤ q) (hq' : q ≤ 256) (h : 1 - q ≤ crI C 0 ∧ crI C 0 < 1) : rfI C 0 q 1 = crI C 0 + q := by
  unfold rfI
  have e : moreI q 1 = q := by
    unfold moreI
    have : max 1 (min (1 : Int) 1000) = 1 := by decide
    rw [this, Int.mul_one]
    exact wrap_in (by simp only [kmin]; omega) (by simp only [kmax]; omega)
  have w : W (crI C 0 + q) = crI C 0 + q := wrap_in (by simp only [kmin]; omega) (by simp only [kmax]; omega)
  rw [e, w]; omega
theorem row_ten {O : Tab} (hl : (O.length : Int) = 1) (h : ∀ r ∈ O, okRow [.i .i64, .i .i64, .b, .b, .i .u64, .i .u64, .i .u64, .i .u64, .i .i64, .i .i64] r) :
    ∃ a b c d e f g i j k, O = [[a, b, c, d, e, f, g, i, j, k]] := by
  match O, hl with
  | [r], _ =>
    have hr := h r (List.mem_singleton.2 rfl)
    match r, hr with
    | [a, b, c, d, e, f, g, i, j, k], _ => exact ⟨a, b, c, d, e, f, g, i, j, k, rfl⟩
theorem row_one {R : Tab} (hl : (R.length : Int) = 1) (h : ∀ r ∈ R, okRow [.i .i64] r) : ∃ a, R = [[a]] := by
  match R, hl with
  | [r], _ =>
    have hr := h r (List.mem_singleton.2 rfl)
    match r, hr with
    | [a], _ => exact ⟨a, rfl⟩
end Go.SF.C21
