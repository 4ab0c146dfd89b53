/- What the functions of chapter 17 compute, in plain Lean; and the numbers by which the machine of unknowns names them. -/
import Derived.Test.YtnhdohhhgfdhfaaSFSimp
namespace Go.SF.C17
open Go.SF
set_option linter.unusedVariables false

abbrev W (x : Int) : Int := IntKind.i64.wrap x
abbrev rowL (T : Tab) (c : Int) : List Int := T.getD c.toNat []
def lenR (T : Tab) (c : Int) : Int := (rowL T c).length
/-- The longest queue (s = 1), or the shortest, from c on; b was the best so far. -/
def betB (s : Int) (T : Tab) (c b : Int) : Bool := if s = 1 then decide (lenR T b < lenR T c) else decide (lenR T c < lenR T b)
def bst (s : Int) (T : Tab) : Nat → Int → Int → Int
  | 0, _, b => b
  | n + 1, c, b => bst s T n (c + 1) (if betB s T c b then c else b)
def bestF (s : Int) (T : Tab) (c b : Int) : Int := bst s T (T.length - c.toNat) c b
def hasB (T : Tab) (id : Int) : Bool := T.any fun r => r.contains id
def cpuF (T : Tab) (id : Int) : Int := (T.findIdx fun r => r.contains id : Nat)
def atF (T : Tab) (id : Int) : Int := ((rowL T (cpuF T id)).idxOf id : Nat)
/-- From place i on. -/
def atG (T : Tab) (c id i : Int) : Int := i + (((rowL T c).drop i.toNat).idxOf id : Nat)
def total (T : Tab) : Int := (T.map List.length).sum
def anyB (T : Tab) : Bool := T.any fun r => !r.isEmpty
/-- All entries of the map. -/
def pairs : Int → Tab → Tab
  | _, [] => []
  | c, r :: T => r.map (fun x => [x, c]) ++ pairs (c + 1) T
def invB (T M : Tab) (rm : Int) : Bool := T.all (fun r => decide ((r.length : Int) ≤ rm)) && (decide (T.flatten.Nodup) && M.isPerm (pairs 0 T))
def layT (T : Tab) (c id : Int) : Tab := T.set c.toNat (rowL T c ++ [id])
def cutT (T : Tab) (c i : Int) : Tab := T.set c.toNat ((rowL T c).eraseIdx i.toNat)
def pushE (T : Tab) (c id rm : Int) : Int :=
  if c < 0 ∨ (T.length : Int) ≤ c then 2 else if id < 0 then 1 else if hasB T id then 5 else if lenR T c = rm then 3 else 0
def pushT (T : Tab) (c id rm : Int) : Tab := if pushE T c id rm = 0 then layT T c id else T
/-- Which one Pop takes. -/
def popF (T : Tab) (c : Int) : Int := if 0 < lenR T c then c else (bestF 1 T 0 0)
def popI (T : Tab) (c : Int) : Int := if 0 < lenR T c then 0 else lenR T (bestF 1 T 0 0) - 1
def popT (T : Tab) (c : Int) : Tab := cutT T (popF T c) (popI T c)
def popX (T : Tab) (c : Int) : Int := (rowL T (popF T c)).getD (popI T c).toNat 0
def dropT (T : Tab) (id : Int) : Tab := if hasB T id then cutT T (cpuF T id) (atF T id) else T
/-- Even. -/
def sq (T : Tab) : Int := (T.map fun r => (r.length : Int) * r.length).sum
def evOK (T : Tab) : Bool := decide (lenR T (bestF 1 T 0 0) < lenR T (bestF 0 T 0 0) + 2)
def evStep (T : Tab) : Tab := layT (cutT T (bestF 1 T 0 0) (lenR T (bestF 1 T 0 0) - 1)) (bestF 0 T 0 0) ((rowL T (bestF 1 T 0 0)).getD (lenR T (bestF 1 T 0 0) - 1).toNat 0)
def evGo : Nat → Tab → Int × Tab
  | 0, T => (0, T)
  | k + 1, T => if evOK T then (0, T) else ((evGo k (evStep T)).1 + 1, (evGo k (evStep T)).2)
def evenN (T : Tab) : Int := (evGo (sq T).toNat T).1
def evenT (T : Tab) : Tab := (evGo (sq T).toNat T).2
/-- One queue of numbers that rise. -/
def seqT (a b : Int) : Tab := [(List.range (b - a).toNat).map fun (i : Nat) => a + i, []]
/-- Two rows of one-cell rows are alike from i on. -/
def sameT (A B : Tab) (i : Int) : Bool := decide (A.drop i.toNat = B.drop i.toNat)

/-- Which ids there are, of 0 .. 63. -/
def inB (T IN : Tab) : Bool := (List.range 64).all (fun k => decide ((IN.getD k []).getD 0 0 = 1) == hasB T k) && T.all fun r => r.all fun x => decide (0 ≤ x) && decide (x ≤ 63)
/-- An id has just come. -/
def preB (T IN : Tab) (id many : Int) : Bool := decide (0 ≤ id) && (decide (id ≤ 63) && (decide ((IN.getD id.toNat []).getD 0 0 = 0) && (inB T (IN.modify id.toNat fun row => row.set 0 1) && decide (total T = many + 1))))
def sumF (T : Tab) (c : Int) : Int := total (T.drop c.toNat)
/-- The first ones. -/
def hdsT (T : Tab) (c : Int) : Tab := (T.take c.toNat).filterMap fun r => r.head?.map fun x => [x]
def lowF (T : Tab) (c x : Int) : Int := (T.drop c.toNat).foldl (fun m r => min m (r.length : Int)) x
def highF (T : Tab) (c x : Int) : Int := (T.drop c.toNat).foldl (fun m r => max m (r.length : Int)) x
/-- The first n of a row, without an id. -/
def wantT (T : Tab) (c id n : Int) : Tab := ((rowT T c).take n.toNat).filter fun r => hdK r != id
/-- No id is below 0. -/
def posB (T : Tab) : Bool := T.all fun r => r.all fun x => decide (0 ≤ x)
def hdOK (T H : Tab) : Bool := H.all fun r => hasB T (hdK r) && decide (atF T (hdK r) = 0)

def fI : Nat → List Arg → Int
  | 100, [.inr T, .inl s, .inl c, .inl b] => bestF s T c b
  | 101, [.inr T, .inl id] => cpuF T id
  | 102, [.inr T, .inl id] => atF T id
  | 103, [.inr T, .inl c, .inl id, .inl i] => atG T c id i
  | 104, [.inr T] => total T
  | 105, [.inr T, .inl c] => sumF T c
  | 106, [.inr T, .inl c, .inl x] => lowF T c x
  | 107, [.inr T, .inl c, .inl x] => highF T c x
  | 110, [.inr T, .inl c, .inl id, .inl rm] => pushE T c id rm
  | 111, [.inr T, .inl c] => popF T c
  | 112, [.inr T, .inl c] => popX T c
  | 113, [.inr T] => evenN T
  | 114, [.inr T] => sq T
  | _, _ => 0
def fL : Nat → List Arg → Tab
  | 110, [.inr T, .inl c, .inl id, .inl rm] => pushT T c id rm
  | 111, [.inr T, .inl c] => popT T c
  | 112, [.inr T, .inl id] => dropT T id
  | 113, [.inr T] => evenT T
  | 115, [.inr T, .inl c, .inl id] => layT T c id
  | 116, [.inr T, .inl c, .inl i] => cutT T c i
  | 120, [.inl a, .inl b] => seqT a b
  | 121, [.inr T, .inl c] => hdsT T c
  | 122, [.inr T, .inl c, .inl id, .inl n] => wantT T c id n
  | _, _ => []
def fB : Nat → List Arg → Bool
  | 130, [.inr T, .inr M, .inl rm] => invB T M rm
  | 131, [.inr T, .inl id] => hasB T id
  | 132, [.inr T] => anyB T
  | 133, [.inr A, .inr B, .inl i] => sameT A B i
  | 134, [.inr T, .inr A] => inB T A
  | 135, [.inr T, .inr A] => hdOK T A
  | 136, [.inr T, .inr A, .inl id, .inl many] => preB T A id many
  | 137, [.inr T] => posB T
  | _, _ => false
end Go.SF.C17
