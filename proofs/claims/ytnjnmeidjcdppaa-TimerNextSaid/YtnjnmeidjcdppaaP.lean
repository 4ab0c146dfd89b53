/- What the functions of chapter 18 compute, in plain Lean; and the numbers by which the machine of unknowns names them. -/
import Derived.Test.YtnjnmeidjcdppaaSFSimp
namespace Go.SF.C18
open Go.SF
set_option linter.unusedVariables false

abbrev W (x : Int) : Int := IntKind.i64.wrap x
/-- Arm. -/
def armI (id at' every now : Int) : Int := if id < 0 ∨ every < 0 ∨ 1073741824 < every ∨ at' ≤ now ∨ 1099511627776 < at' then 1 else 0
def armT (T : Tab) (id at' every now : Int) : Tab := if armI id at' every now = 0 then putK T [id, at', every] else T
/-- The least time of those still to come. -/
def leastR (least : Int) (M : Tab) : Int := (remT M).foldr (fun r m => min (r.getD 1 0) m) least
def leastI (T : Tab) : Int := T.foldr (fun r m => min (r.getD 1 0) m) 1099511627776
/-- What fires ahead of what; a row with one more in its place. -/
def aheadB (i1 a1 i2 a2 : Int) : Bool := decide (a1 < a2) || (decide (a1 = a2) && decide (i1 < i2))
def aheadR (r : List Int) (id at' : Int) : Bool := aheadB (r.getD 0 0) (r.getD 1 0) id at'
def insF (id at' times : Int) (L : Tab) : Tab := (L.takeWhile fun r => aheadR r id at') ++ [id, at', times] :: L.dropWhile fun r => aheadR r id at'
def rankF (L : Tab) (id at' i : Int) : Int := i + (((L.drop i.toNat).takeWhile fun r => aheadR r id at').length : Int)
/-- How often one fires, and when it does next. -/
def timesI (at' every now : Int) : Int := W (W ((W (now - at')).tdiv every) + 1)
def nextI (at' every now : Int) : Int := W (at' + W (timesI at' every now * every))
def dueB (now : Int) (r : List Int) : Bool := decide (r.getD 1 0 ≤ now)
def fireR (now : Int) (r : List Int) (L : Tab) : Tab :=
  insF (hdK r) (r.getD 1 0) (if r.getD 2 0 = 0 then 1 else timesI (r.getD 1 0) (r.getD 2 0) now) L
def tickO (now : Int) (L M : Tab) : Tab := ((remT M).filter (dueB now)).foldr (fireR now) L
/-- A row behind a Tick. -/
def stepR (now : Int) (r : List Int) : Option (List Int) :=
  if dueB now r then (if r.getD 2 0 = 0 then none else some [hdK r, nextI (r.getD 1 0) (r.getD 2 0) now, r.getD 2 0]) else some r
def tickM (now : Int) (M : Tab) : Tab := M.filterMap fun r => if lastK r = 0 then some r else (stepR now r.dropLast).map (· ++ [0])
def tickL (T : Tab) (now : Int) : Tab := (T.filter (dueB now)).foldr (fireR now) []
def tickT (T : Tab) (now : Int) : Tab := T.filterMap (stepR now)
/-- All were gone through. -/
def clrAll (M : Tab) : Tab := M.map fun r => r.dropLast ++ [0]
/-- Credits. -/
def crI (C : Tab) (id : Int) : Int := ((findK C id).getD 0 []).getD 1 0
def chI (C : Tab) (id ticks : Int) : Int := max (-1073741824) (W (crI C id - max 0 (min ticks 1073741824)))
def moreI (q w : Int) : Int := W (q * max 1 (min w 1000))
def rfI (C : Tab) (id q w : Int) : Int := min (moreI q w) (W (crI C id + moreI q w))
/-- How a credit can be. -/
def boundB (C : Tab) (i q : Int) : Bool := decide (-(40000 * i) ≤ crI C 5) && decide (crI C 5 ≤ q * 1000)
/-- How timers can be: all to come, not too late, and as often as may be. -/
def goodB (T : Tab) (now i : Int) : Bool := T.all fun r => decide (now < r.getD 1 0) && decide (r.getD 1 0 ≤ 65536 * (i + 2)) && decide (0 ≤ r.getD 2 0) && decide (r.getD 2 0 ≤ 65535)
/-- How often each one of thirty fires; rows added, and taken away. -/
def cntR (now : Int) (r : List Int) : Int := if dueB now r then (if r.getD 2 0 = 0 then 1 else timesI (r.getD 1 0) (r.getD 2 0) now) else 0
def sumC (now k : Int) (T : Tab) : Int := T.foldr (fun r s => (if hdK r = k then cntR now r else 0) + s) 0
def cntN (T : Tab) (now : Int) : Tab := (List.range 30).map fun (k : Nat) => [sumC now (k : Int) T]
def addN (N : Tab) (id t : Int) : Tab := N.modify id.toNat fun row => row.set (0 : Int).toNat (W ((N.getD id.toNat []).getD 0 0 + t))
def subN (N : Tab) (id t : Int) : Tab := N.modify id.toNat fun row => row.set (0 : Int).toNat (W ((N.getD id.toNat []).getD 0 0 - t))
def addAll (N L : Tab) : Tab := L.foldl (fun N r => addN N (r.getD 0 0) (r.getD 2 0)) N
def subAll (N L : Tab) : Tab := L.foldl (fun N r => subN N (r.getD 0 0) (r.getD 2 0)) N
def okL (L : Tab) (now : Int) : Bool := L.all fun r => decide (0 ≤ r.getD 0 0) && decide (r.getD 0 0 ≤ 29) && decide (r.getD 1 0 ≤ now) && decide (1 ≤ r.getD 2 0)
def okT (T : Tab) (i : Int) : Bool := T.all fun r => decide (0 ≤ hdK r) && decide (hdK r < i) && decide (1 ≤ r.getD 1 0) && decide (r.getD 1 0 ≤ 65536) && decide (0 ≤ r.getD 2 0) && decide (r.getD 2 0 ≤ 65535)
def fI : Nat → List Arg → Int
  | 110, [.inl a, .inl b, .inl c, .inl d] => armI a b c d
  | 111, [.inr M, .inl m] => leastR m M
  | 112, [.inr T] => leastI T
  | 113, [.inr C, .inl i, .inl t] => chI C i t
  | 114, [.inr C, .inl i, .inl q, .inl w] => rfI C i q w
  | 115, [.inr C, .inl i] => crI C i
  | 120, [.inr L, .inl id, .inl a, .inl i] => rankF L id a i
  | 121, [.inl a, .inl e, .inl n] => timesI a e n
  | 122, [.inl a, .inl e, .inl n] => nextI a e n
  | _, _ => 0
def fL : Nat → List Arg → Tab
  | 110, [.inr T, .inl a, .inl b, .inl c, .inl d] => armT T a b c d
  | 116, [.inr M] => clrAll M
  | 120, [.inr L, .inl id, .inl a, .inl t] => insF id a t L
  | 122, [.inr L, .inr M, .inl n] => tickO n L M
  | 123, [.inr M, .inl n] => tickM n M
  | 124, [.inr T, .inl n] => tickL T n
  | 125, [.inr T, .inl n] => tickT T n
  | 126, [.inr N, .inr L, .inl i] => addAll N (L.drop i.toNat)
  | 127, [.inr N, .inr L, .inl i] => subAll N (L.drop i.toNat)
  | 128, [.inr T, .inl n] => cntN T n
  | _, _ => []
def fB : Nat → List Arg → Bool
  | 130, [.inl a, .inl b, .inl c, .inl d] => aheadB a b c d
  | 132, [.inr C, .inl i, .inl q] => boundB C i q
  | 140, [.inr T, .inl n, .inl i] => goodB T n i
  | 141, [.inr L, .inl n] => okL L n
  | 142, [.inr T, .inl i] => okT T i
  | _, _ => false
def Φ : Sig := ⟨fI, fL, fB, fun _ _ _ _ => False, fun _ _ _ _ _ h _ => h⟩
theorem aI110 (a b c d : Int) : Φ.appI 110 [.inl a, .inl b, .inl c, .inl d] = armI a b c d := rfl
theorem aI111 (M : Tab) (m : Int) : Φ.appI 111 [.inr M, .inl m] = leastR m M := rfl
theorem aI112 (T : Tab) : Φ.appI 112 [.inr T] = leastI T := rfl
theorem aI113 (C : Tab) (i t : Int) : Φ.appI 113 [.inr C, .inl i, .inl t] = chI C i t := rfl
theorem aI114 (C : Tab) (i q w : Int) : Φ.appI 114 [.inr C, .inl i, .inl q, .inl w] = rfI C i q w := rfl
theorem aI115 (C : Tab) (i : Int) : Φ.appI 115 [.inr C, .inl i] = crI C i := rfl
theorem aI120 (L : Tab) (id a i : Int) : Φ.appI 120 [.inr L, .inl id, .inl a, .inl i] = rankF L id a i := rfl
theorem aI121 (a e n : Int) : Φ.appI 121 [.inl a, .inl e, .inl n] = timesI a e n := by simp [Sig.appI, Φ, fI]
theorem aI122 (a e n : Int) : Φ.appI 122 [.inl a, .inl e, .inl n] = nextI a e n := by simp [Sig.appI, Φ, fI]
theorem aL110 (T : Tab) (a b c d : Int) : Φ.appL 110 [.inr T, .inl a, .inl b, .inl c, .inl d] = armT T a b c d := rfl
theorem aL116 (M : Tab) : Φ.appL 116 [.inr M] = clrAll M := rfl
theorem aL120 (L : Tab) (id a t : Int) : Φ.appL 120 [.inr L, .inl id, .inl a, .inl t] = insF id a t L := rfl
theorem aL122 (L M : Tab) (n : Int) : Φ.appL 122 [.inr L, .inr M, .inl n] = tickO n L M := rfl
theorem aL123 (M : Tab) (n : Int) : Φ.appL 123 [.inr M, .inl n] = tickM n M := rfl
theorem aL124 (T : Tab) (n : Int) : Φ.appL 124 [.inr T, .inl n] = tickL T n := rfl
theorem aL125 (T : Tab) (n : Int) : Φ.appL 125 [.inr T, .inl n] = tickT T n := rfl
theorem aB130 (a b c d : Int) : Φ.fB 130 [.inl a, .inl b, .inl c, .inl d] = aheadB a b c d := rfl
theorem aB132 (C : Tab) (i q : Int) : Φ.fB 132 [.inr C, .inl i, .inl q] = boundB C i q := rfl
theorem aB140 (T : Tab) (n i : Int) : Φ.fB 140 [.inr T, .inl n, .inl i] = goodB T n i := rfl
theorem aB141 (L : Tab) (n : Int) : Φ.fB 141 [.inr L, .inl n] = okL L n := rfl
theorem aB142 (T : Tab) (i : Int) : Φ.fB 142 [.inr T, .inl i] = okT T i := rfl
theorem aL126 (N L : Tab) (i : Int) : Φ.appL 126 [.inr N, .inr L, .inl i] = addAll N (L.drop i.toNat) := rfl
theorem aL127 (N L : Tab) (i : Int) : Φ.appL 127 [.inr N, .inr L, .inl i] = subAll N (L.drop i.toNat) := rfl
theorem aL128 (T : Tab) (n : Int) : Φ.appL 128 [.inr T, .inl n] = cntN T n := rfl
theorem aB199 : Φ.fB 199 [] = false := rfl
end Go.SF.C18
