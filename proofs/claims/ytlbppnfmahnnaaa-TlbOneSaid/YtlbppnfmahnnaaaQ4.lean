/- What is known of fixed calls; the law of one that is not there. -/
import Derived.Test.YtlbppnfmahnnaaaQ3
import Derived.Test.YtlbppnfmahnnaaaC3
import Derived.KernelRfl
namespace Go.SF.C14
open Go Go.SF Go.Proofs
set_option linter.unusedVariables false
set_option linter.unusedSimpArgs false

set_option maxRecDepth 100000 in
theorem cKnown_obs : callObs Φ Try.prog t8 1000 cKnown.f cKnown.vs cKnown.o cKnown.pc cKnown.outs = some
  [] := by kernel_rfl
theorem cKnown_ok : cKnown.ok Φ Try.prog := by
  refine call_rule (fun ρ => t8_ok ρ) cKnown_obs ?_
  intro ob h; cases h
theorem t9_ok (ρ : Env) : TblOK Φ ρ Try.prog t9 := addFn_ok (t8_ok ρ) cKnown_ok
set_option maxRecDepth 100000 in
theorem lNil_obs : callObs Φ Try.prog t9 1000 lNil.f lNil.vs lNil.o lNil.pc lNil.outs = some
  [] := by kernel_rfl
theorem lNil_ok : lNil.ok Φ Try.prog := by
  refine call_rule (fun ρ => t9_ok ρ) lNil_obs ?_
  intro ob h; cases h
end Go.SF.C14
