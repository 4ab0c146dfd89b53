/- All have run, for each number of CPUs and of virtual ones: gone through by the kernel. -/
import Derived.Test.YtnhdohhhgfdhfaaPS
namespace Go.SF.C21
open Go.SF
set_option linter.unusedVariables false

def tried (n k : Nat) : Bool := ranF (turns (k + k + 2) (begQ k 0 (List.replicate n []), List.replicate n [-1], List.replicate k [0])).2.2 0
theorem tried_1_0 : (List.range 10).all (fun k => tried 1 (k + 1)) = true := by decide +kernel
theorem tried_1_10 : (List.range 6).all (fun k => tried 1 (k + 11)) = true := by decide +kernel
theorem tried_1_16 : (List.range 4).all (fun k => tried 1 (k + 17)) = true := by decide +kernel
theorem tried_2_0 : (List.range 10).all (fun k => tried 2 (k + 1)) = true := by decide +kernel
theorem tried_2_10 : (List.range 6).all (fun k => tried 2 (k + 11)) = true := by decide +kernel
theorem tried_2_16 : (List.range 4).all (fun k => tried 2 (k + 17)) = true := by decide +kernel
theorem tried_3_0 : (List.range 10).all (fun k => tried 3 (k + 1)) = true := by decide +kernel
theorem tried_3_10 : (List.range 6).all (fun k => tried 3 (k + 11)) = true := by decide +kernel
theorem tried_3_16 : (List.range 4).all (fun k => tried 3 (k + 17)) = true := by decide +kernel
theorem tried_4_0 : (List.range 10).all (fun k => tried 4 (k + 1)) = true := by decide +kernel
theorem tried_4_10 : (List.range 6).all (fun k => tried 4 (k + 11)) = true := by decide +kernel
theorem tried_4_16 : (List.range 4).all (fun k => tried 4 (k + 17)) = true := by decide +kernel
theorem tried_5_0 : (List.range 10).all (fun k => tried 5 (k + 1)) = true := by decide +kernel
theorem tried_5_10 : (List.range 6).all (fun k => tried 5 (k + 11)) = true := by decide +kernel
theorem tried_5_16 : (List.range 4).all (fun k => tried 5 (k + 17)) = true := by decide +kernel
theorem tried_6_0 : (List.range 10).all (fun k => tried 6 (k + 1)) = true := by decide +kernel
theorem tried_6_10 : (List.range 6).all (fun k => tried 6 (k + 11)) = true := by decide +kernel
theorem tried_6_16 : (List.range 4).all (fun k => tried 6 (k + 17)) = true := by decide +kernel
theorem tried_7_0 : (List.range 10).all (fun k => tried 7 (k + 1)) = true := by decide +kernel
theorem tried_7_10 : (List.range 6).all (fun k => tried 7 (k + 11)) = true := by decide +kernel
theorem tried_7_16 : (List.range 4).all (fun k => tried 7 (k + 17)) = true := by decide +kernel
theorem tried_8_0 : (List.range 10).all (fun k => tried 8 (k + 1)) = true := by decide +kernel
theorem tried_8_10 : (List.range 6).all (fun k => tried 8 (k + 11)) = true := by decide +kernel
theorem tried_8_16 : (List.range 4).all (fun k => tried 8 (k + 17)) = true := by decide +kernel
theorem tried_all {n k : Nat} (h1 : 1 ≤ n) (h2 : n ≤ 8) (h3 : 1 ≤ k) (h4 : k ≤ 20) : tried n k = true := by
  have hr : ∀ (a b : Nat) (p : Nat → Bool), (List.range b).all (fun k => p (k + a)) = true → ∀ k, a ≤ k → k < a + b → p k = true := by
    intro a b p h k h1 h2
    have := List.all_eq_true.1 h (k - a) (List.mem_range.2 (by omega))
    rwa [show k - a + a = k by omega] at this
  have hn : n = 1 ∨ n = 2 ∨ n = 3 ∨ n = 4 ∨ n = 5 ∨ n = 6 ∨ n = 7 ∨ n = 8 := by omega
  have hk : (1 ≤ k ∧ k < 11) ∨ (11 ≤ k ∧ k < 17) ∨ (17 ≤ k ∧ k < 21) := by omega
  rcases hn with rfl | rfl | rfl | rfl | rfl | rfl | rfl | rfl <;> rcases hk with ⟨a, b⟩ | ⟨a, b⟩ | ⟨a, b⟩
  · exact hr 1 10 (tried 1) tried_1_0 k a b
  · exact hr 11 6 (tried 1) tried_1_10 k a b
  · exact hr 17 4 (tried 1) tried_1_16 k a b
  · exact hr 1 10 (tried 2) tried_2_0 k a b
  · exact hr 11 6 (tried 2) tried_2_10 k a b
  · exact hr 17 4 (tried 2) tried_2_16 k a b
  · exact hr 1 10 (tried 3) tried_3_0 k a b
  · exact hr 11 6 (tried 3) tried_3_10 k a b
  · exact hr 17 4 (tried 3) tried_3_16 k a b
  · exact hr 1 10 (tried 4) tried_4_0 k a b
  · exact hr 11 6 (tried 4) tried_4_10 k a b
  · exact hr 17 4 (tried 4) tried_4_16 k a b
  · exact hr 1 10 (tried 5) tried_5_0 k a b
  · exact hr 11 6 (tried 5) tried_5_10 k a b
  · exact hr 17 4 (tried 5) tried_5_16 k a b
  · exact hr 1 10 (tried 6) tried_6_0 k a b
  · exact hr 11 6 (tried 6) tried_6_10 k a b
  · exact hr 17 4 (tried 6) tried_6_16 k a b
  · exact hr 1 10 (tried 7) tried_7_0 k a b
  · exact hr 11 6 (tried 7) tried_7_10 k a b
  · exact hr 17 4 (tried 7) tried_7_16 k a b
  · exact hr 1 10 (tried 8) tried_8_0 k a b
  · exact hr 11 6 (tried 8) tried_8_10 k a b
  · exact hr 17 4 (tried 8) tried_8_16 k a b
end Go.SF.C21
