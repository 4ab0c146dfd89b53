/- What the functions of the package sched compute, in plain Lean. -/
import Derived.Test.YtnhdohhhgfdhfaaPQ
import Derived.Test.YtnhdohhhgfdhfaaPT
namespace Go.SF.C21
open Go.SF
set_option linter.unusedVariables false

/-- One queue has the id 1, that of its home; all others are empty. -/
def oneB (T : Tab) : Bool := decide (T = C17.layT (List.replicate T.length []) ((1 : Int).tmod T.length) 1)
/-- No timer is due; nobody runs. -/
def noneB (T : Tab) (n : Int) : Bool := T.all fun r => decide (n < r.getD 1 0)
def idleB (R : Tab) : Bool := R.all fun r => decide (r.getD 0 0 = -1)
/-- One is in a state, on a CPU. -/
def setOn (O : Tab) (i s on : Int) : Tab := O.modify i.toNat fun r => (r.set 0 s).set 1 on
/-- All are ready, in a queue, or run; those in queues are ready. -/
abbrev cel (O : Tab) (i : Int) (j : Nat) : Int := (O.getD i.toNat []).getD j 0
def oneOK (O R : Tab) (i : Int) : Bool := decide (cel O i 2 = 0) && decide (cel O i 3 = 0) && decide (cel O i 8 = 0) &&
  (decide (cel O i 0 = 1 ∧ cel O i 1 = -1) || decide (cel O i 0 = 2 ∧ 0 ≤ cel O i 1 ∧ cel O i 1 < R.length ∧ cel R (cel O i 1) 0 = i))
def cpuOK (O R : Tab) (c : Int) : Bool := decide (cel R c 0 = -1) || decide (0 ≤ cel R c 0 ∧ cel R c 0 < O.length ∧ cel O (cel R c 0) 0 = 2 ∧ cel O (cel R c 0) 1 = c)
def idOK (O : Tab) (x : Int) : Bool := decide (0 ≤ x ∧ x < O.length ∧ cel O x 0 = 1)
def servB (O A R : Tab) : Bool := (List.range O.length).all (fun (i : Nat) => oneOK O R i) && (List.range R.length).all (fun (c : Nat) => cpuOK O R c) && A.flatten.all (idOK O)
/-- The law of turns: who dispatches from CPU c on; who yields from CPU c on; turns; how all begin. -/
def setC (R : Tab) (c x : Int) : Tab := R.modify c.toNat fun row => row.set (Int.toNat 0) x
def incN (N : Tab) (x : Int) : Tab := setC N x (C17.W (cel N x 0 + 1))
abbrev Tab3 := Tab × Tab × Tab
def dGo : Nat → Int → Tab3 → Tab3
  | 0, _, s => s
  | k + 1, c, (A, R, N) => dGo k (c + 1) (if C17.anyB A then (C17.popT A c, setC R c (C17.popX A c), incN N (C17.popX A c)) else (A, R, N))
def lGo : Nat → Int → Tab × Tab → Tab × Tab
  | 0, _, s => s
  | k + 1, c, (A, R) => lGo k (c + 1) (if cel R c 0 = -1 then (A, R) else (C17.layT A c (cel R c 0), setC R c (-1)))
def dAll (A R N : Tab) (c : Int) : Tab3 := dGo (A.length - c.toNat) c (A, R, N)
def lAll (A R : Tab) (c : Int) : Tab × Tab := lGo (A.length - c.toNat) c (A, R)
def turn (s : Tab3) : Tab3 :=
  (fun d : Tab3 => (fun l : Tab × Tab => (l.1, l.2, d.2.2)) (lAll d.1 d.2.1 0)) (dAll s.1 s.2.1 s.2.2 0)
def turns : Nat → Tab3 → Tab3
  | 0, s => s
  | t + 1, s => turns t (turn s)
def begQ : Nat → Int → Tab → Tab
  | 0, _, A => A
  | k + 1, i, A => begQ k (i + 1) (C17.layT A (i.tmod A.length) i)
/-- Nobody runs from CPU c on; each one has run. -/
def idleF (R : Tab) (c : Int) : Bool := (R.drop c.toNat).all fun r => decide (r.getD 0 0 = -1)
def ranF (N : Tab) (i : Int) : Bool := (N.drop i.toNat).all fun r => !decide (r.getD 0 0 = 0)
def sI : Nat → List Arg → Int
  | _, _ => 0
def sL : Nat → List Arg → Tab
  | 310, [.inr O, .inl i, .inl s, .inl on] => setOn O i s on
  | 311, [.inr O, .inl x] => O ++ [[0, -1, 0, 0, 0, 0, 0, 0, 0, x]]
  | 320, [.inr A, .inr R, .inr N, .inl c] => (dAll A R N c).1
  | 321, [.inr A, .inr R, .inr N, .inl c] => (dAll A R N c).2.1
  | 322, [.inr A, .inr R, .inr N, .inl c] => (dAll A R N c).2.2
  | 323, [.inr A, .inr R, .inl c] => (lAll A R c).1
  | 324, [.inr A, .inr R, .inl c] => (lAll A R c).2
  | 325, [.inr A, .inr R, .inr N, .inl t] => (turns t.toNat (A, R, N)).1
  | 326, [.inr A, .inr R, .inr N, .inl t] => (turns t.toNat (A, R, N)).2.1
  | 327, [.inr A, .inr R, .inr N, .inl t] => (turns t.toNat (A, R, N)).2.2
  | 328, [.inr A, .inl i, .inl k] => begQ (k - i).toNat i A
  | _, _ => []
def sB : Nat → List Arg → Bool
  | 300, [.inr T] => oneB T
  | 301, [.inr T, .inl n] => noneB T n
  | 302, [.inr R] => idleB R
  | 310, [.inr O, .inr A, .inr R] => servB O A R
  | 320, [.inr R, .inl c] => idleF R c
  | 321, [.inr N, .inl i] => ranF N i
  | _, _ => false
end Go.SF.C21
