/- Chapter 17: an outcome that cannot be; six bits; how many there are at most. -/
import Derived.Test.YtmkklciobehohaaP4
namespace Go.SF.C17
open Go Go.SF
set_option linter.unusedVariables false
set_option linter.unusedSimpArgs false
/-- An outcome that cannot be. -/
theorem drop_never {P : Program} {f : Nat} {vs : List AV} {o : List AObj} {pc : List SB} {x y : TOut} (hy : y.pc = [.app 199 .nil]) (h : TmCall Φ P f vs o pc [x, y]) : TmCall Φ P f vs o pc [x] := by
  intro ρ μ B w xs hd hM hp R hR
  refine h ρ μ B w xs hd hM hp R fun eo heo => ?_
  simp only [List.map_cons, List.map_nil, List.mem_cons, List.not_mem_nil, or_false] at heo
  rcases heo with rfl | rfl
  · exact hR _ (by simp)
  · have nev : ∀ ρ' : Env, ¬ holds Φ ρ' y.pc := fun ρ' hh => by
      rw [hy] at hh
      have := hh (.app 199 .nil) (by simp)
      simp only [evB_app, evA_nil] at this
      rw [aB199] at this
      cases this
    cases hg : get 0 y.t with
    | none => exact fun ρ' _ => nev ρ'
    | some v => exact fun ρ' _ hh => absurd hh (nev ρ')
theorem and63 (x : Int) : 0 ≤ Go.bits .and .i64 x 63 ∧ Go.bits .and .i64 x 63 ≤ 63 := by
  have h : Go.bits .and .i64 x 63 = IntKind.i64.wrap (((x % 2 ^ 64).toNat &&& 63 : Nat) : Int) := by
    show IntKind.i64.wrap ((BitVec.ofInt 64 x &&& BitVec.ofInt 64 63).toNat : Int) = _
    rw [BitVec.toNat_and, BitVec.toNat_ofInt, BitVec.toNat_ofInt]; rfl
  have hl : (x % 2 ^ 64).toNat &&& 63 ≤ 63 := Nat.and_le_right
  rw [h]
  rw [wrap_in (by omega) (by omega)]
  omega
theorem total_le {T : Tab} {m : Int} (h : ∀ r ∈ T, (r.length : Int) ≤ m) : total T ≤ m * T.length := by
  induction T with
  | nil => simp [total]
  | cons r T ih =>
    have h1 := h r (List.mem_cons_self ..)
    have h2 := ih fun s hs => h s (List.mem_cons_of_mem _ hs)
    unfold total at h2 ⊢
    simp only [List.map_cons, List.sum_cons, List.length_cons, Int.natCast_add, Int.natCast_one, Int.mul_add, Int.mul_one]
    omega
end Go.SF.C17
