/- What the functions of the package sched compute, in plain Lean. -/
import Derived.Test.YtnhdohhhgfdhfaaPQ
import Derived.Test.YtnhdohhhgfdhfaaPT
namespace Go.SF.C21
open Go.SF
set_option linter.unusedVariables false

/-- One queue has the id 1, that of its home; all others are empty. -/
def oneB (T : Tab) : Bool := decide (T = C17.layT (List.replicate T.length []) ((1 : Int).tmod T.length) 1)
/-- No timer is due; nobody runs. -/
def noneB (T : Tab) (n : Int) : Bool := T.all fun r => decide (n < r.getD 1 0)
def idleB (R : Tab) : Bool := R.all fun r => decide (r.getD 0 0 = -1)
def sI : Nat → List Arg → Int
  | _, _ => 0
def sL : Nat → List Arg → Tab
  | _, _ => []
def sB : Nat → List Arg → Bool
  | 300, [.inr T] => oneB T
  | 301, [.inr T, .inl n] => noneB T n
  | 302, [.inr R] => idleB R
  | _, _ => false
end Go.SF.C21
