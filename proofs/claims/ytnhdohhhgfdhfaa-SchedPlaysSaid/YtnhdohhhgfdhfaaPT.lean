/- What the functions of chapter 18 compute, in plain Lean; and the numbers by which the machine of unknowns names them. -/
import Derived.Test.YtnhdohhhgfdhfaaSFSimp
namespace Go.SF.C18
open Go.SF
set_option linter.unusedVariables false

abbrev W (x : Int) : Int := IntKind.i64.wrap x
/-- Arm. -/
def armI (id at' every now : Int) : Int := if id < 0 ∨ every < 0 ∨ 1073741824 < every ∨ at' ≤ now ∨ 1099511627776 < at' then 1 else 0
def armT (T : Tab) (id at' every now : Int) : Tab := if armI id at' every now = 0 then putK T [id, at', every] else T
/-- The least time of those still to come. -/
def leastR (least : Int) (M : Tab) : Int := (remT M).foldr (fun r m => min (r.getD 1 0) m) least
def leastI (T : Tab) : Int := T.foldr (fun r m => min (r.getD 1 0) m) 1099511627776
/-- What fires ahead of what; a row with one more in its place. -/
def aheadB (i1 a1 i2 a2 : Int) : Bool := decide (a1 < a2) || (decide (a1 = a2) && decide (i1 < i2))
def aheadR (r : List Int) (id at' : Int) : Bool := aheadB (r.getD 0 0) (r.getD 1 0) id at'
def insF (id at' times : Int) (L : Tab) : Tab := (L.takeWhile fun r => aheadR r id at') ++ [id, at', times] :: L.dropWhile fun r => aheadR r id at'
def rankF (L : Tab) (id at' i : Int) : Int := i + (((L.drop i.toNat).takeWhile fun r => aheadR r id at').length : Int)
/-- How often one fires, and when it does next. -/
def timesI (at' every now : Int) : Int := W (W ((W (now - at')).tdiv every) + 1)
def nextI (at' every now : Int) : Int := W (at' + W (timesI at' every now * every))
def dueB (now : Int) (r : List Int) : Bool := decide (r.getD 1 0 ≤ now)
def fireR (now : Int) (r : List Int) (L : Tab) : Tab :=
  insF (hdK r) (r.getD 1 0) (if r.getD 2 0 = 0 then 1 else timesI (r.getD 1 0) (r.getD 2 0) now) L
def tickO (now : Int) (L M : Tab) : Tab := ((remT M).filter (dueB now)).foldr (fireR now) L
/-- A row behind a Tick. -/
def stepR (now : Int) (r : List Int) : Option (List Int) :=
  if dueB now r then (if r.getD 2 0 = 0 then none else some [hdK r, nextI (r.getD 1 0) (r.getD 2 0) now, r.getD 2 0]) else some r
def tickM (now : Int) (M : Tab) : Tab := M.filterMap fun r => if lastK r = 0 then some r else (stepR now r.dropLast).map (· ++ [0])
def tickL (T : Tab) (now : Int) : Tab := (T.filter (dueB now)).foldr (fireR now) []
def tickT (T : Tab) (now : Int) : Tab := T.filterMap (stepR now)
/-- All were gone through. -/
def clrAll (M : Tab) : Tab := M.map fun r => r.dropLast ++ [0]
/-- Credits. -/
def crI (C : Tab) (id : Int) : Int := ((findK C id).getD 0 []).getD 1 0
def chI (C : Tab) (id ticks : Int) : Int := max (-1073741824) (W (crI C id - max 0 (min ticks 1073741824)))
def moreI (q w : Int) : Int := W (q * max 1 (min w 1000))
def rfI (C : Tab) (id q w : Int) : Int := min (moreI q w) (W (crI C id + moreI q w))
/-- How a credit can be. -/
def boundB (C : Tab) (i q : Int) : Bool := decide (-(40000 * i) ≤ crI C 5) && decide (crI C 5 ≤ q * 1000)
/-- How timers can be: all to come, not too late, and as often as may be. -/
def goodB (T : Tab) (now i : Int) : Bool := T.all fun r => decide (now < r.getD 1 0) && decide (r.getD 1 0 ≤ 65536 * (i + 2)) && decide (0 ≤ r.getD 2 0) && decide (r.getD 2 0 ≤ 65535)
/-- How often each one of thirty fires; rows added, and taken away. -/
def cntR (now : Int) (r : List Int) : Int := if dueB now r then (if r.getD 2 0 = 0 then 1 else timesI (r.getD 1 0) (r.getD 2 0) now) else 0
def sumC (now k : Int) (T : Tab) : Int := T.foldr (fun r s => (if hdK r = k then cntR now r else 0) + s) 0
def cntN (T : Tab) (now : Int) : Tab := (List.range 30).map fun (k : Nat) => [sumC now (k : Int) T]
def addN (N : Tab) (id t : Int) : Tab := N.modify id.toNat fun row => row.set (0 : Int).toNat (W ((N.getD id.toNat []).getD 0 0 + t))
def subN (N : Tab) (id t : Int) : Tab := N.modify id.toNat fun row => row.set (0 : Int).toNat (W ((N.getD id.toNat []).getD 0 0 - t))
def addAll (N L : Tab) : Tab := L.foldl (fun N r => addN N (r.getD 0 0) (r.getD 2 0)) N
def subAll (N L : Tab) : Tab := L.foldl (fun N r => subN N (r.getD 0 0) (r.getD 2 0)) N
def okL (L : Tab) (now : Int) : Bool := L.all fun r => decide (0 ≤ r.getD 0 0) && decide (r.getD 0 0 ≤ 29) && decide (r.getD 1 0 ≤ now) && decide (1 ≤ r.getD 2 0)
def okT (T : Tab) (i : Int) : Bool := T.all fun r => decide (0 ≤ hdK r) && decide (hdK r < i) && decide (1 ≤ r.getD 1 0) && decide (r.getD 1 0 ≤ 65536) && decide (0 ≤ r.getD 2 0) && decide (r.getD 2 0 ≤ 65535)
/-- The document's answer: rows in a list; credits in a list. -/
def disL (L : Tab) (id : Int) : Tab := L.filter fun r => !decide (hdK r = id)
def putL (L : Tab) (id at' e : Int) : Tab := insF id at' e (disL L id)
def armL (L : Tab) (id at' every now : Int) : Tab := if armI id at' every now = 0 then putL L id at' every else L
def dueL (L : Tab) (now : Int) : Tab := L.takeWhile fun r => decide (r.getD 1 0 ≤ now)
def restL (L : Tab) (now : Int) : Tab := L.dropWhile fun r => decide (r.getD 1 0 ≤ now)
def outL (now : Int) (D : Tab) : Tab := D.map fun r => [hdK r, r.getD 1 0, if r.getD 2 0 = 0 then 1 else timesI (r.getD 1 0) (r.getD 2 0) now]
def nxtR (now : Int) (r : List Int) : Option (List Int) := if r.getD 2 0 = 0 then none else some [hdK r, nextI (r.getD 1 0) (r.getD 2 0) now, r.getD 2 0]
def agaL (now : Int) (D : Tab) : Tab := D.filterMap (nxtR now)
def putAll (L G : Tab) : Tab := G.foldl (fun L r => putL L (r.getD 0 0) (r.getD 1 0) (r.getD 2 0)) L
def tckL (L : Tab) (now : Int) : Tab := putAll (restL L now) (agaL now (dueL L now))
def crL (D : Tab) (id : Int) : Int := ((D.find? fun r => decide (hdK r = id)).getD []).getD 1 0
def setL : Tab → Int → Int → Tab
  | [], id, n => [[id, n]]
  | r :: D, id, n => if hdK r = id then [id, n] :: D else r :: setL D id n
/-- From place i on. -/
def crG (D : Tab) (id i : Int) : Int := crL (D.drop i.toNat) id
def hasC (D : Tab) (id : Int) : Bool := D.any fun r => decide (hdK r = id)
def setG (D : Tab) (id n i : Int) : Tab := D.take i.toNat ++ setL (D.drop i.toNat) id n
/-- The rows by time. -/
def sortT (T : Tab) : Tab := T.foldr (fun r L => insF (hdK r) (r.getD 1 0) (r.getD 2 0) L) []
def isB (T L : Tab) : Bool := decide (L = sortT T) && (T.all (fun r => decide (r.length = 3)) && decide (T.Pairwise fun a b => hdK a < hdK b))
def crB (C D : Tab) : Bool := C.all (fun r => decide (crL D (hdK r) = crI C (hdK r))) && D.all fun r => decide (crL D (hdK r) = crI C (hdK r))
/-- How rows can be at a time. -/
def timB (T : Tab) (now : Int) : Bool := T.all fun r => (decide (now < r.getD 1 0) && decide (r.getD 1 0 ≤ 1099511627776)) && (decide (0 ≤ r.getD 2 0) && decide (r.getD 2 0 ≤ 1073741824))
def fI : Nat → List Arg → Int
  | 110, [.inl a, .inl b, .inl c, .inl d] => armI a b c d
  | 111, [.inr M, .inl m] => leastR m M
  | 112, [.inr T] => leastI T
  | 113, [.inr C, .inl i, .inl t] => chI C i t
  | 114, [.inr C, .inl i, .inl q, .inl w] => rfI C i q w
  | 115, [.inr C, .inl i] => crI C i
  | 120, [.inr L, .inl id, .inl a, .inl i] => rankF L id a i
  | 121, [.inl a, .inl e, .inl n] => timesI a e n
  | 122, [.inl a, .inl e, .inl n] => nextI a e n
  | 150, [.inr D, .inl id, .inl i] => crG D id i
  | 151, [.inr D, .inl i, .inl t] => max (-1073741824) (W (crG D i 0 - max 0 (min t 1073741824)))
  | 152, [.inr D, .inl i, .inl q, .inl w] => min (moreI q w) (W (crG D i 0 + moreI q w))
  | _, _ => 0
def fL : Nat → List Arg → Tab
  | 110, [.inr T, .inl a, .inl b, .inl c, .inl d] => armT T a b c d
  | 116, [.inr M] => clrAll M
  | 120, [.inr L, .inl id, .inl a, .inl t] => insF id a t L
  | 122, [.inr L, .inr M, .inl n] => tickO n L M
  | 123, [.inr M, .inl n] => tickM n M
  | 124, [.inr T, .inl n] => tickL T n
  | 125, [.inr T, .inl n] => tickT T n
  | 126, [.inr N, .inr L, .inl i] => addAll N (L.drop i.toNat)
  | 127, [.inr N, .inr L, .inl i] => subAll N (L.drop i.toNat)
  | 128, [.inr T, .inl n] => cntN T n
  | 150, [.inr L, .inl id] => disL L id
  | 151, [.inr L, .inl id, .inl a, .inl e] => putL L id a e
  | 152, [.inr L, .inl id, .inl a, .inl e, .inl n] => armL L id a e n
  | 153, [.inr L, .inl n] => tckL L n
  | 154, [.inr L, .inl n] => outL n (dueL L n)
  | 155, [.inr L, .inl n] => agaL n (dueL L n)
  | 156, [.inr L, .inl n] => restL L n
  | 157, [.inr L, .inr G, .inl i] => putAll L (G.drop i.toNat)
  | 158, [.inr D, .inl id, .inl n, .inl i] => setG D id n i
  | _, _ => []
def fB : Nat → List Arg → Bool
  | 130, [.inl a, .inl b, .inl c, .inl d] => aheadB a b c d
  | 132, [.inr C, .inl i, .inl q] => boundB C i q
  | 140, [.inr T, .inl n, .inl i] => goodB T n i
  | 141, [.inr L, .inl n] => okL L n
  | 142, [.inr T, .inl i] => okT T i
  | 150, [.inr T, .inr L] => isB T L
  | 151, [.inr C, .inr D] => crB C D
  | 152, [.inr T, .inl n] => timB T n
  | 153, [.inr D, .inl id, .inl i] => hasC (D.drop i.toNat) id
  | _, _ => false
end Go.SF.C18
