/- The law of wakes, shown. -/
import Derived.Test.YtnhdohhhgfdhfaaQ1wa
import Derived.Test.YtnhdohhhgfdhfaaQ1wb
import Derived.Test.YtnhdohhhgfdhfaaQ1wc
import Derived.KernelRfl
namespace Go.SF.C21
open Go Go.SF Go.Proofs
set_option linter.unusedVariables false
set_option linter.unusedSimpArgs false

theorem lWakes_ok : lWakes.ok Φ Try.prog := by
  intro ρ μ B w xs hx hM hp R hR
  have h0 : 0 ≤ ρ.i 0 := by have := hp (.le (.c 0) x0) (by simp [lWakes]); simpa [x0, evB_le, ev_c, ev_v] using this
  have h1 := Int.emod_nonneg (ρ.i 0) (b := 8) (by decide)
  have h2 := Int.emod_lt_of_pos (ρ.i 0) (b := 8) (by decide)
  have h3 : (ρ.i 0).tmod 8 = (ρ.i 0) % 8 := Int.tmod_eq_emod_of_nonneg h0
  have hk : ∀ k : Nat, (ρ.i 0).tmod 8 = Int.ofNat k - 1 → holds Φ ρ (lWk k [yes []]).pc := by
    intro k e x hx
    rcases List.mem_cons.1 hx with rfl | hx
    · simp only [isK, x0, evB_eq, ev_rem, ev_v, ev_c, decide_eq_true_eq]; exact e
    · exact hp x hx
  have h4 : (ρ.i 0).tmod 8 = 0 ∨ (ρ.i 0).tmod 8 = 1 ∨ (ρ.i 0).tmod 8 = 2 ∨ (ρ.i 0).tmod 8 = 3 ∨ (ρ.i 0).tmod 8 = 4 ∨ (ρ.i 0).tmod 8 = 5 ∨ (ρ.i 0).tmod 8 = 6 ∨ (ρ.i 0).tmod 8 = 7 := by omega
  rcases h4 with e | e | e | e | e | e | e | e
  · exact lWakes1_yes ρ μ B w xs hx hM (hk 1 (e.trans (by decide))) R hR
  · exact lWakes2_yes ρ μ B w xs hx hM (hk 2 (e.trans (by decide))) R hR
  · exact lWakes3_yes ρ μ B w xs hx hM (hk 3 (e.trans (by decide))) R hR
  · exact lWakes4_yes ρ μ B w xs hx hM (hk 4 (e.trans (by decide))) R hR
  · exact lWakes5_yes ρ μ B w xs hx hM (hk 5 (e.trans (by decide))) R hR
  · exact lWakes6_yes ρ μ B w xs hx hM (hk 6 (e.trans (by decide))) R hR
  · exact lWakes7_yes ρ μ B w xs hx hM (hk 7 (e.trans (by decide))) R hR
  · exact lWakes8_yes ρ μ B w xs hx hM (hk 8 (e.trans (by decide))) R hR

end Go.SF.C21
