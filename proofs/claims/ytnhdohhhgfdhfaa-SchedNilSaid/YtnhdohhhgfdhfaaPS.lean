/- What the functions of the package sched compute, in plain Lean. -/
import Derived.Test.YtnhdohhhgfdhfaaPQ
import Derived.Test.YtnhdohhhgfdhfaaPT
namespace Go.SF.C21
open Go.SF
set_option linter.unusedVariables false

def sI : Nat → List Arg → Int
  | _, _ => 0
def sL : Nat → List Arg → Tab
  | _, _ => []
def sB : Nat → List Arg → Bool
  | _, _ => false
end Go.SF.C21
