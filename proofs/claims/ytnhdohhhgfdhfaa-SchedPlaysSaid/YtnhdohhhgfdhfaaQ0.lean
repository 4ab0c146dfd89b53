/- The fixed calls, and the law of what is not there, shown. -/
import Derived.Test.YtnhdohhhgfdhfaaCM
import Derived.Test.YtnhdohhhgfdhfaaQQ
import Derived.Test.YtnhdohhhgfdhfaaQT
import Derived.KernelRfl
namespace Go.SF.C21
open Go Go.SF Go.Proofs
set_option linter.unusedVariables false
set_option linter.unusedSimpArgs false

theorem b1_ok (ρ : Env) : TblOK Φ ρ Try.prog b1 := addFn_ok (addFn_ok (addFn_ok (addFn_ok (addFn_ok (T.t6_ok ρ) Q.cNew_ok) Q.cPush_ok) Q.cPop_ok) Q.cDrop_ok) Q.cList_ok
set_option maxRecDepth 100000 in
theorem cKnown_obs : callObs Φ Try.prog b1 1000 cKnown.f cKnown.vs cKnown.o cKnown.pc cKnown.outs = some
  [] := by kernel_rfl
theorem cKnown_ok : cKnown.ok Φ Try.prog := by
  refine call_rule (fun ρ => b1_ok ρ) cKnown_obs ?_
  intro ob h; cases h
end Go.SF.C21
