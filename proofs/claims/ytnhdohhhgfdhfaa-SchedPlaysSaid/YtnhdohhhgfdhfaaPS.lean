/- What the functions of the package sched compute, in plain Lean. -/
import Derived.Test.YtnhdohhhgfdhfaaPQ
import Derived.Test.YtnhdohhhgfdhfaaPT
namespace Go.SF.C21
open Go.SF
set_option linter.unusedVariables false

/-- One queue has the id 1, that of its home; all others are empty. -/
def oneB (T : Tab) : Bool := decide (T = C17.layT (List.replicate T.length []) ((1 : Int).tmod T.length) 1)
/-- No timer is due; nobody runs. -/
def noneB (T : Tab) (n : Int) : Bool := T.all fun r => decide (n < r.getD 1 0)
def idleB (R : Tab) : Bool := R.all fun r => decide (r.getD 0 0 = -1)
/-- One is in a state, on a CPU. -/
def setOn (O : Tab) (i s on : Int) : Tab := O.modify i.toNat fun r => (r.set 0 s).set 1 on
/-- All are ready, in a queue, or run; those in queues are ready. -/
abbrev cel (O : Tab) (i : Int) (j : Nat) : Int := (O.getD i.toNat []).getD j 0
def oneOK (O R : Tab) (i : Int) : Bool := decide (cel O i 2 = 0) && decide (cel O i 3 = 0) && decide (cel O i 8 = 0) &&
  (decide (cel O i 0 = 1 ∧ cel O i 1 = -1) || decide (cel O i 0 = 2 ∧ 0 ≤ cel O i 1 ∧ cel O i 1 < R.length ∧ cel R (cel O i 1) 0 = i))
def cpuOK (O R : Tab) (c : Int) : Bool := decide (cel R c 0 = -1) || decide (0 ≤ cel R c 0 ∧ cel R c 0 < O.length ∧ cel O (cel R c 0) 0 = 2 ∧ cel O (cel R c 0) 1 = c)
def idOK (O : Tab) (x : Int) : Bool := decide (0 ≤ x ∧ x < O.length ∧ cel O x 0 = 1)
def servB (O A R : Tab) : Bool := (List.range O.length).all (fun (i : Nat) => oneOK O R i) && (List.range R.length).all (fun (c : Nat) => cpuOK O R c) && A.flatten.all (idOK O)
/-- The law of turns: who dispatches from CPU c on; who yields from CPU c on; turns; how all begin. -/
def setC (R : Tab) (c x : Int) : Tab := R.modify c.toNat fun row => row.set (Int.toNat 0) x
def incN (N : Tab) (x : Int) : Tab := setC N x (C17.W (cel N x 0 + 1))
abbrev Tab3 := Tab × Tab × Tab
def dGo : Nat → Int → Tab3 → Tab3
  | 0, _, s => s
  | k + 1, c, (A, R, N) => dGo k (c + 1) (if C17.anyB A then (C17.popT A c, setC R c (C17.popX A c), incN N (C17.popX A c)) else (A, R, N))
def lGo : Nat → Int → Tab × Tab → Tab × Tab
  | 0, _, s => s
  | k + 1, c, (A, R) => lGo k (c + 1) (if cel R c 0 = -1 then (A, R) else (C17.layT A c (cel R c 0), setC R c (-1)))
def dAll (A R N : Tab) (c : Int) : Tab3 := dGo (A.length - c.toNat) c (A, R, N)
def lAll (A R : Tab) (c : Int) : Tab × Tab := lGo (A.length - c.toNat) c (A, R)
def turn (s : Tab3) : Tab3 :=
  (fun d : Tab3 => (fun l : Tab × Tab => (l.1, l.2, d.2.2)) (lAll d.1 d.2.1 0)) (dAll s.1 s.2.1 s.2.2 0)
def turns : Nat → Tab3 → Tab3
  | 0, s => s
  | t + 1, s => turns t (turn s)
def begQ : Nat → Int → Tab → Tab
  | 0, _, A => A
  | k + 1, i, A => begQ k (i + 1) (C17.layT A (i.tmod A.length) i)
/-- Nobody runs from CPU c on; each one has run. -/
def idleF (R : Tab) (c : Int) : Bool := (R.drop c.toNat).all fun r => decide (r.getD 0 0 = -1)
def ranF (N : Tab) (i : Int) : Bool := (N.drop i.toNat).all fun r => !decide (r.getD 0 0 = 0)
/-! ### whatever happens: what an event makes of one; and of all -/
/-- State, CPU, woken, held behind an event (none: it cannot be). -/
def nx4 (s on w h ev cpu : Int) : Option (List Int) :=
  if ev = 8 then (if s = 5 then none else some [5, -1, 0, 0])
  else if s = 2 then
    (if ev = 5 then some [2, on, 1, h] else if ev = 6 then some [2, on, w, 1] else if ev = 7 then some [2, on, w, 0]
     else if ev = 4 ∧ w = 0 then some [3, -1, 0, h] else if ev = 3 ∨ ev = 4 then some [if h = 1 then 4 else 1, -1, 0, 0] else none)
  else if s = 0 ∧ ev = 1 ∨ s = 4 ∧ ev = 7 then some [1, -1, 0, h]
  else if s = 1 ∧ ev = 2 then some [2, cpu, w, h]
  else if s = 3 ∧ ev = 5 then some [if h = 1 then 4 else 1, -1, 0, 0]
  else if s = 3 ∧ ev = 6 then some [3, on, w, 1]
  else if s = 3 ∧ ev = 7 then some [3, on, w, 0]
  else if s = 1 ∧ ev = 6 then some [4, -1, 0, h]
  else if s = 1 ∧ ev = 5 ∨ s = 4 ∧ ev = 5 ∨ s = 4 ∧ ev = 6 ∨ s = 1 ∧ ev = 7 then some [s, on, w, h]
  else none
def nxO (O : Tab) (i ev cpu : Int) : Option (List Int) := nx4 (cel O i 0) (cel O i 1) (cel O i 2) (cel O i 3) ev cpu
def nxB (O : Tab) (i ev cpu : Int) : Bool := (nxO O i ev cpu).isSome
def nxT (O : Tab) (i ev cpu : Int) : Tab := [(nxO O i ev cpu).getD []]
/-- One that can be. -/
def right8 (O : Tab) (i : Int) : Bool := decide (0 ≤ cel O i 0 ∧ cel O i 0 ≤ 5 ∧ cel O i 8 = 0 ∧ (cel O i 2 = 0 ∨ cel O i 2 = 1) ∧ (cel O i 3 = 0 ∨ cel O i 3 = 1) ∧
  (cel O i 0 = 2 → 0 ≤ cel O i 1 ∧ cel O i 1 ≤ 7) ∧ (¬ cel O i 0 = 2 → cel O i 1 = -1 ∧ cel O i 2 = 0) ∧ (¬ cel O i 0 = 2 → ¬ cel O i 0 = 3 → cel O i 3 = 0))
/-- Four cells of one. -/
def put4 (O : Tab) (i s on w h : Int) : Tab := O.modify i.toNat fun r => (((r.set 0 s).set 1 on).set 2 w).set 3 h
def evO (O : Tab) (i ev cpu : Int) : Tab := match nxO O i ev cpu with
  | some r => put4 O i (r.getD 0 0) (r.getD 1 0) (r.getD 2 0) (r.getD 3 0)
  | none => O
/-- One that leaves its state; one that comes into it. -/
def lvA (O A : Tab) (i : Int) : Tab := if cel O i 0 = 1 then C17.dropT A i else A
def lvR (O R : Tab) (i : Int) : Tab := if cel O i 0 = 2 then setC R (cel O i 1) (-1) else R
def enA (O A : Tab) (home i : Int) : Tab := if cel O i 0 = 1 then C17.pushT A home i 64 else A
def enR (O R : Tab) (i : Int) : Tab := if cel O i 0 = 2 then setC R (cel O i 1) i else R
def enB (O B : Tab) (i : Int) : Tab := if cel O i 0 = 5 then delK B i else B
def evC (O : Tab) (i ev cpu : Int) : Bool := nxB O i ev cpu && !decide (cel (nxT O i ev cpu) 0 0 = cel O i 0)
def evA (O A : Tab) (i ev cpu home : Int) : Tab := if evC O i ev cpu then enA (evO O i ev cpu) (lvA O A i) home i else A
def evR (O R : Tab) (i ev cpu : Int) : Tab := if evC O i ev cpu then enR (evO O i ev cpu) (lvR O R i) i else R
def evB (O B : Tab) (i ev cpu : Int) : Tab := if evC O i ev cpu then enB (evO O i ev cpu) B i else B
/-- All is as it must be: rows that can be; who runs, runs just there; who is ready, waits. -/
def rowB (O R : Tab) (i : Int) : Bool := decide (cel O i 8 = 0 ∧ 0 ≤ cel O i 0 ∧ cel O i 0 ≤ 5 ∧ (cel O i 0 = 2 → 0 ≤ cel O i 1 ∧ cel O i 1 < R.length ∧ cel R (cel O i 1) 0 = i) ∧
  (¬ cel O i 0 = 2 → cel O i 1 = -1 ∧ cel O i 2 = 0) ∧ (¬ cel O i 0 = 2 → ¬ cel O i 0 = 3 → cel O i 3 = 0))
def invS (O A R : Tab) : Bool := (List.range O.length).all (fun (i : Nat) => rowB O R i && (!decide (cel O i 0 = 1) || C17.hasB A i)) && ((List.range R.length).all (fun (c : Nat) => cpuOK O R c) && A.flatten.all (idOK O))
/-- Credit for one that has none. -/
def dsC (C : Tab) (id q : Int) : Tab := if C18.crI C id < 1 then putK C [id, C18.rfI C id q 1] else C
/-- Time goes on: who runs is charged, and leaves; timers wake. -/
abbrev Tab5 := Tab × Tab × Tab × Tab × Tab
abbrev Tab4 := Tab × Tab × Tab × Tab
def tkA (c t : Int) (O A R C L : Tab) : Tab5 :=
  if cel R c 0 = -1 then (O, A, R, C, L) else
  if C18.chI C (cel R c 0) t < 1 then (evO O (cel R c 0) 3 0, evA O A (cel R c 0) 3 0 c, evR O R (cel R c 0) 3 0, putK C [cel R c 0, C18.chI C (cel R c 0) t], L ++ [[cel R c 0]]) else
  (O, A, R, putK C [cel R c 0, C18.chI C (cel R c 0) t], L)
def tk1 : Nat → Int → Int → Tab5 → Tab5
  | 0, _, _, s => s
  | n + 1, c, t, (O, A, R, C, L) => tk1 n (c + 1) t (tkA c t O A R C L)
def tkL (O A R C L : Tab) (c t : Int) : Tab5 := tk1 (R.length - c.toNat) c t (O, A, R, C, L)
def wkA (x : Int) (O A R W : Tab) : Tab4 :=
  if 0 ≤ x ∧ x < O.length then (evO O x 5 0, evA O A x 5 0 (x.tmod R.length), evR O R x 5 0, W ++ [[x]]) else (O, A, R, W ++ [[x]])
def wk : Tab → Tab4 → Tab4
  | [], s => s
  | r :: F, (O, A, R, W) => wk F (wkA (r.getD 0 0) O A R W)
def wkL (O A R F W : Tab) (k : Int) : Tab4 := wk (F.drop k.toNat) (O, A, R, W)
/-- Who was seen on CPUs, and in queues, of the first n; and of the next one, its first k. -/
def run1 (R : Tab) (c : Int) : List Int := if cel R c 0 = -1 then [] else [cel R c 0]
def vis (A R : Tab) (n : Nat) : List Int := (List.range n).flatMap fun (c : Nat) => run1 R c ++ C17.rowL A c
def visK (A R : Tab) (c k : Int) : List Int := vis A R c.toNat ++ (if k < 0 then [] else run1 R c ++ (C17.rowL A c).take k.toNat)
def plB (A R P : Tab) (c k : Int) : Bool := (List.range P.length).all fun (i : Nat) => decide (cel P i 0 = (visK A R c k).count (i : Int))
/-- The document's answer: rows with room, each id once; an id from CPU c on; credits and timers in lists. -/
def low8 (T : Tab) : Bool := C17.invB T (C17.pairs 0 T) 64
def hasG (T : Tab) (id c : Int) : Bool := C17.hasB (T.drop c.toNat) id
def cpuG (T : Tab) (id c : Int) : Int := c + C17.cpuF (T.drop c.toNat) id
def rfD (D : Tab) (i q : Int) : Int := min (C18.moreI q 1) (C18.W (C18.crG D i 0 + C18.moreI q 1))
def dsD (D : Tab) (i q : Int) : Tab := if C18.crG D i 0 < 1 then C18.setG D i (rfD D i q) 0 else D
def enL (O L : Tab) (i : Int) : Tab := if cel O i 0 = 5 then C18.disL L i else L
def evL (O L : Tab) (i ev cpu : Int) : Tab := if evC O i ev cpu then enL (evO O i ev cpu) L i else L
def chD (D : Tab) (i t : Int) : Int := max (-1073741824) (C18.W (C18.crG D i 0 - max 0 (min t 1073741824)))
def tkB (c t : Int) (O A R D L : Tab) : Tab5 :=
  if cel R c 0 = -1 then (O, A, R, D, L) else
  if chD D (cel R c 0) t < 1 then (evO O (cel R c 0) 3 0, evA O A (cel R c 0) 3 0 c, evR O R (cel R c 0) 3 0, C18.setG D (cel R c 0) (chD D (cel R c 0) t) 0, L ++ [[cel R c 0]]) else
  (O, A, R, C18.setG D (cel R c 0) (chD D (cel R c 0) t) 0, L)
def tk2 : Nat → Int → Int → Tab5 → Tab5
  | 0, _, _, s => s
  | n + 1, c, t, (O, A, R, D, L) => tk2 n (c + 1) t (tkB c t O A R D L)
def tkD (O A R D L : Tab) (c t : Int) : Tab5 := tk2 (R.length - c.toNat) c t (O, A, R, D, L)
def sI : Nat → List Arg → Int
  | 341, [.inr T, .inl id, .inl c] => cpuG T id c
  | 340, [.inr O, .inl i, .inl ev, .inl c] => if nxB O i ev c then 0 else 6
  | _, _ => 0
def sL : Nat → List Arg → Tab
  | 310, [.inr O, .inl i, .inl s, .inl on] => setOn O i s on
  | 311, [.inr O, .inl x] => O ++ [[0, -1, 0, 0, 0, 0, 0, 0, 0, x]]
  | 320, [.inr A, .inr R, .inr N, .inl c] => (dAll A R N c).1
  | 321, [.inr A, .inr R, .inr N, .inl c] => (dAll A R N c).2.1
  | 322, [.inr A, .inr R, .inr N, .inl c] => (dAll A R N c).2.2
  | 323, [.inr A, .inr R, .inl c] => (lAll A R c).1
  | 324, [.inr A, .inr R, .inl c] => (lAll A R c).2
  | 325, [.inr A, .inr R, .inr N, .inl t] => (turns t.toNat (A, R, N)).1
  | 326, [.inr A, .inr R, .inr N, .inl t] => (turns t.toNat (A, R, N)).2.1
  | 327, [.inr A, .inr R, .inr N, .inl t] => (turns t.toNat (A, R, N)).2.2
  | 328, [.inr A, .inl i, .inl k] => begQ (k - i).toNat i A
  | 330, [.inr O, .inl i, .inl ev, .inl c] => nxT O i ev c
  | 331, [.inr O, .inl i, .inl ev, .inl c] => evO O i ev c
  | 332, [.inr O, .inr A, .inl i] => lvA O A i
  | 333, [.inr O, .inr R, .inl i] => lvR O R i
  | 334, [.inr O, .inr A, .inl h, .inl i] => enA O A h i
  | 335, [.inr O, .inr R, .inl i] => enR O R i
  | 336, [.inr O, .inr B, .inl i] => enB O B i
  | 337, [.inr O, .inr A, .inl i, .inl ev, .inl c, .inl h] => evA O A i ev c h
  | 338, [.inr O, .inr R, .inl i, .inl ev, .inl c] => evR O R i ev c
  | 339, [.inr O, .inr B, .inl i, .inl ev, .inl c] => evB O B i ev c
  | 341, [.inr C, .inl i, .inl q] => dsC C i q
  | 350, [.inr O, .inr A, .inr R, .inr C, .inr L, .inl c, .inl t] => (tkL O A R C L c t).1
  | 351, [.inr O, .inr A, .inr R, .inr C, .inr L, .inl c, .inl t] => (tkL O A R C L c t).2.1
  | 352, [.inr O, .inr A, .inr R, .inr C, .inr L, .inl c, .inl t] => (tkL O A R C L c t).2.2.1
  | 353, [.inr O, .inr A, .inr R, .inr C, .inr L, .inl c, .inl t] => (tkL O A R C L c t).2.2.2.1
  | 354, [.inr O, .inr A, .inr R, .inr C, .inr L, .inl c, .inl t] => (tkL O A R C L c t).2.2.2.2
  | 355, [.inr O, .inr A, .inr R, .inr F, .inr W, .inl k] => (wkL O A R F W k).1
  | 356, [.inr O, .inr A, .inr R, .inr F, .inr W, .inl k] => (wkL O A R F W k).2.1
  | 357, [.inr O, .inr A, .inr R, .inr F, .inr W, .inl k] => (wkL O A R F W k).2.2.1
  | 358, [.inr O, .inr A, .inr R, .inr F, .inr W, .inl k] => (wkL O A R F W k).2.2.2
  | 342, [.inr D, .inl i, .inl q] => dsD D i q
  | 343, [.inr O, .inr L, .inl i, .inl ev, .inl c] => evL O L i ev c
  | 360, [.inr O, .inr A, .inr R, .inr D, .inr L, .inl c, .inl t] => (tkD O A R D L c t).1
  | 361, [.inr O, .inr A, .inr R, .inr D, .inr L, .inl c, .inl t] => (tkD O A R D L c t).2.1
  | 362, [.inr O, .inr A, .inr R, .inr D, .inr L, .inl c, .inl t] => (tkD O A R D L c t).2.2.1
  | 363, [.inr O, .inr A, .inr R, .inr D, .inr L, .inl c, .inl t] => (tkD O A R D L c t).2.2.2.1
  | 364, [.inr O, .inr A, .inr R, .inr D, .inr L, .inl c, .inl t] => (tkD O A R D L c t).2.2.2.2
  | _, _ => []
def sB : Nat → List Arg → Bool
  | 300, [.inr T] => oneB T
  | 301, [.inr T, .inl n] => noneB T n
  | 302, [.inr R] => idleB R
  | 310, [.inr O, .inr A, .inr R] => servB O A R
  | 320, [.inr R, .inl c] => idleF R c
  | 321, [.inr N, .inl i] => ranF N i
  | 330, [.inr O, .inl i, .inl ev, .inl c] => nxB O i ev c
  | 331, [.inr O, .inl i] => right8 O i
  | 332, [.inr O, .inr A, .inr R] => invS O A R
  | 333, [.inr A, .inr R, .inr P, .inl c, .inl k] => plB A R P c k
  | 340, [.inr T] => low8 T
  | 341, [.inr T, .inl id, .inl c] => hasG T id c
  | _, _ => false
end Go.SF.C21
