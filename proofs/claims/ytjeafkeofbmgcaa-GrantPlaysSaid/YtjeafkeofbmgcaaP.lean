/- What the functions of chapter 19 compute, in plain Lean; and the numbers by which the machine of unknowns names them. -/
import Derived.Test.YtjeafkeofbmgcaaSFSimp
namespace Go.SF.C19
open Go.SF
set_option linter.unusedVariables false

abbrev W (x : Int) : Int := IntKind.i64.wrap x
abbrev Z5 : List Int := [0, 0, 0, 0, 0]
def freeB (r : List Int) : Bool := decide (r = Z5)
def liveB (r : List Int) : Bool := !decide (r = Z5)
def sameR (o p t : Int) (r : List Int) : Bool := decide (r.getD 0 0 = o) && decide (r.getD 1 0 = p) && decide (r.getD 2 0 = t)
def ofG (g : Int) (r : List Int) : Bool := !decide (r = Z5) && (decide (r.getD 0 0 = g) || decide (r.getD 2 0 = g))
abbrev rowAt (T : Tab) (id : Int) : List Int := T.getD id.toNat []
def noneB (T : Tab) (id : Int) : Bool := decide (id < 0) || decide ((T.length : Int) ≤ id) || freeB (rowAt T id)
/-- The places of rows of which p is so. -/
def idxT (p : List Int → Bool) : Int → Tab → Tab
  | _, [] => []
  | i, r :: T => if p r then [i] :: idxT p (i + 1) T else idxT p (i + 1) T
/-- Offer. -/
def guestB (n : Int) : Bool := decide (1 ≤ n) && decide (n ≤ 16)
def offE (T : Tab) (o p t : Int) : Int :=
  if !guestB o || !guestB t || decide (o = t) || decide (p < 0) || decide (65536 ≤ p) then 1
  else if idxT (sameR o p t) 0 T ≠ [] then 5 else if idxT freeB 0 T = [] then 3 else 0
def offI (T : Tab) (o p t : Int) : Int := if offE T o p t = 0 then ((idxT freeB 0 T).getD 0 []).getD 0 0 else 0
def offT (T : Tab) (o p t w : Int) : Tab := if offE T o p t = 0 then T.modify (offI T o p t).toNat fun _ => [o, p, t, w, 0] else T
/-- Take, Back, Revoke. -/
def takE (T : Tab) (id g w : Int) : Int :=
  if noneB T id then 4 else if (rowAt T id).getD 2 0 ≠ g ∨ (w = 1 ∧ (rowAt T id).getD 3 0 = 0) then 7 else if (rowAt T id).getD 4 0 = 1000 then 3 else 0
def takT (T : Tab) (id g w : Int) : Tab := if takE T id g w = 0 then T.modify id.toNat (fun r => r.set 4 (W ((rowAt T id).getD 4 0 + 1))) else T
def bacE (T : Tab) (id g : Int) : Int := if noneB T id then 4 else if (rowAt T id).getD 2 0 ≠ g then 7 else if (rowAt T id).getD 4 0 = 0 then 6 else 0
def bacT (T : Tab) (id g : Int) : Tab := if bacE T id g = 0 then T.modify id.toNat (fun r => r.set 4 (W ((rowAt T id).getD 4 0 - 1))) else T
def revE (T : Tab) (id o : Int) : Int := if noneB T id then 4 else if (rowAt T id).getD 0 0 ≠ o then 7 else if 0 < (rowAt T id).getD 4 0 then 9 else 0
def revT (T : Tab) (id o : Int) : Tab := if revE T id o = 0 then T.modify id.toNat (fun _ => Z5) else T
/-- Drop. -/
def zeroAt (T L : Tab) : Tab := L.foldl (fun T r => T.modify (r.getD 0 0).toNat fun _ => Z5) T
def clrG (g : Int) (T : Tab) : Tab := T.map fun r => if ofG g r then Z5 else r
/-- How often one may be in use. -/
def usesB (T : Tab) : Bool := T.all fun r => decide (0 ≤ r.getD 4 0) && decide (r.getD 4 0 ≤ 1000)
def inB (L : Tab) (n : Int) : Bool := L.all fun r => decide (0 ≤ r.getD 0 0) && decide (r.getD 0 0 < n)
/-- Guest n was seen. -/
def seenB (S : Tab) (n : Int) : Bool := decide ((S.getD n.toNat []).getD 0 0 = 1)
def seeT (S : Tab) (n : Int) : Tab := S.modify n.toNat fun row => row.set 0 1
def unseen (S : Tab) : Int := (S.countP fun r => !decide (r.getD 0 0 = 1) : Nat)
/-- One row's step of the search from n, where f is the search. -/
def stepR (f : Tab → Int → Tab) (n : Int) (S : Tab) (r : List Int) : Tab :=
  if liveB r then (if r.getD 0 0 = n then f S (r.getD 2 0) else if r.getD 2 0 = n then f S (r.getD 0 0) else S) else S
def dfs (G : Tab) : Nat → Tab → Int → Tab
  | 0, S, _ => S
  | k + 1, S, n => if seenB S n then S else G.foldl (stepR (dfs G k) n) (seeT S n)
def stepB (S : Tab) (r : List Int) : Tab := if decide (0 < r.getD 0 0) && (seenB S (r.getD 0 0) || seenB S (r.getD 2 0)) then seeT (seeT S (r.getD 0 0)) (r.getD 2 0) else S
def rounds (G : Tab) : Nat → Tab → Tab
  | 0, S => S
  | k + 1, S => rounds G k (G.foldl stepB S)
/-- Guests of live rows are guests; a row lives if its owner is one. -/
def okGB (G : Tab) : Bool := G.all fun r => (liveB r == decide (0 < r.getD 0 0)) && (!liveB r || (guestB (r.getD 0 0) && guestB (r.getD 2 0)))
/-- Two guests have to do with one another. -/
def noneS : Tab := List.replicate 17 [0]
def linkB (G : Tab) (a b : Int) : Bool := guestB a && guestB b && seenB (dfs G 18 noneS a) b
/-- The document's Offer, from row i down, and its Drop, from row i on. -/
def plcI (T : Tab) (i p : Int) : Int := match idxT freeB 0 (T.take (i + 1).toNat) with | [] => p | r :: _ => r.getD 0 0
def anyB (T : Tab) (i o p t : Int) : Bool := (T.take (i + 1).toNat).any (sameR o p t)
def clrF (T : Tab) (g i : Int) : Tab := T.take i.toNat ++ clrG g (T.drop i.toNat)
def fI : Nat → List Arg → Int
  | 150, [.inr T, .inl i, .inl p] => plcI T i p
  | 110, [.inr T, .inl o, .inl p, .inl t] => offE T o p t
  | 142, [.inr S] => unseen S
  | 111, [.inr T, .inl o, .inl p, .inl t] => offI T o p t
  | 112, [.inr T, .inl id, .inl g, .inl w] => takE T id g w
  | 113, [.inr T, .inl id, .inl g] => bacE T id g
  | 114, [.inr T, .inl id, .inl o] => revE T id o
  | _, _ => 0
def fL : Nat → List Arg → Tab
  | 150, [.inr T, .inl g, .inl i] => clrF T g i
  | 100, [.inr T, .inl i] => idxT freeB i (T.drop i.toNat)
  | 140, [.inr G, .inr S, .inl k, .inl n] => dfs G k.toNat S n
  | 141, [.inr G, .inr S, .inl k, .inl n, .inl i] => (G.drop i.toNat).foldl (stepR (dfs G k.toNat) n) S
  | 143, [.inr G, .inr S, .inl k] => rounds G k.toNat S
  | 144, [.inr G, .inr S, .inl i] => (G.drop i.toNat).foldl stepB S
  | 101, [.inr T, .inl i] => idxT liveB i (T.drop i.toNat)
  | 102, [.inr T, .inl i, .inl g] => idxT (ofG g) i (T.drop i.toNat)
  | 103, [.inr T, .inl i, .inl o, .inl p, .inl t] => idxT (sameR o p t) i (T.drop i.toNat)
  | 110, [.inr T, .inl o, .inl p, .inl t, .inl w] => offT T o p t w
  | 112, [.inr T, .inl id, .inl g, .inl w] => takT T id g w
  | 113, [.inr T, .inl id, .inl g] => bacT T id g
  | 114, [.inr T, .inl id, .inl o] => revT T id o
  | 115, [.inr T, .inr L, .inl i] => zeroAt T (L.drop i.toNat)
  | 116, [.inr T, .inl g] => clrG g T
  | _, _ => []
def fB : Nat → List Arg → Bool
  | 150, [.inr T, .inl i, .inl o, .inl p, .inl t] => anyB T i o p t
  | 130, [.inr T, .inl id] => noneB T id
  | 131, [.inr T] => usesB T
  | 140, [.inr G] => okGB G
  | 141, [.inr G, .inl a, .inl b] => linkB G a b
  | 132, [.inr L, .inl n] => inB L n
  | _, _ => false
def Φ : Sig := ⟨fI, fL, fB, fun _ _ _ _ => False, fun _ _ _ _ _ h _ => h⟩
theorem aI110 (T : Tab) (o p t : Int) : Φ.appI 110 [.inr T, .inl o, .inl p, .inl t] = offE T o p t := rfl
theorem aI111 (T : Tab) (o p t : Int) : Φ.appI 111 [.inr T, .inl o, .inl p, .inl t] = offI T o p t := rfl
theorem aI112 (T : Tab) (id g w : Int) : Φ.appI 112 [.inr T, .inl id, .inl g, .inl w] = takE T id g w := rfl
theorem aI113 (T : Tab) (id g : Int) : Φ.appI 113 [.inr T, .inl id, .inl g] = bacE T id g := rfl
theorem aI114 (T : Tab) (id o : Int) : Φ.appI 114 [.inr T, .inl id, .inl o] = revE T id o := rfl
theorem aL100 (T : Tab) (i : Int) : Φ.appL 100 [.inr T, .inl i] = idxT freeB i (T.drop i.toNat) := rfl
theorem aL101 (T : Tab) (i : Int) : Φ.appL 101 [.inr T, .inl i] = idxT liveB i (T.drop i.toNat) := rfl
theorem aL102 (T : Tab) (i g : Int) : Φ.appL 102 [.inr T, .inl i, .inl g] = idxT (ofG g) i (T.drop i.toNat) := rfl
theorem aL103 (T : Tab) (i o p t : Int) : Φ.appL 103 [.inr T, .inl i, .inl o, .inl p, .inl t] = idxT (sameR o p t) i (T.drop i.toNat) := rfl
theorem aL110 (T : Tab) (o p t w : Int) : Φ.appL 110 [.inr T, .inl o, .inl p, .inl t, .inl w] = offT T o p t w := rfl
theorem aL112 (T : Tab) (id g w : Int) : Φ.appL 112 [.inr T, .inl id, .inl g, .inl w] = takT T id g w := rfl
theorem aL113 (T : Tab) (id g : Int) : Φ.appL 113 [.inr T, .inl id, .inl g] = bacT T id g := rfl
theorem aL114 (T : Tab) (id o : Int) : Φ.appL 114 [.inr T, .inl id, .inl o] = revT T id o := rfl
theorem aL115 (T L : Tab) (i : Int) : Φ.appL 115 [.inr T, .inr L, .inl i] = zeroAt T (L.drop i.toNat) := rfl
theorem aL116 (T : Tab) (g : Int) : Φ.appL 116 [.inr T, .inl g] = clrG g T := rfl
theorem aB130 (T : Tab) (id : Int) : Φ.fB 130 [.inr T, .inl id] = noneB T id := rfl
theorem aB131 (T : Tab) : Φ.fB 131 [.inr T] = usesB T := rfl
theorem aB132 (L : Tab) (n : Int) : Φ.fB 132 [.inr L, .inl n] = inB L n := rfl
theorem aI142 (S : Tab) : Φ.appI 142 [.inr S] = unseen S := rfl
theorem aL140 (G S : Tab) (k n : Int) : Φ.appL 140 [.inr G, .inr S, .inl k, .inl n] = dfs G k.toNat S n := rfl
theorem aL141 (G S : Tab) (k n i : Int) : Φ.appL 141 [.inr G, .inr S, .inl k, .inl n, .inl i] = (G.drop i.toNat).foldl (stepR (dfs G k.toNat) n) S := rfl
theorem aL143 (G S : Tab) (k : Int) : Φ.appL 143 [.inr G, .inr S, .inl k] = rounds G k.toNat S := rfl
theorem aL144 (G S : Tab) (i : Int) : Φ.appL 144 [.inr G, .inr S, .inl i] = (G.drop i.toNat).foldl stepB S := rfl
theorem aB140 (G : Tab) : Φ.fB 140 [.inr G] = okGB G := rfl
theorem aB141 (G : Tab) (a b : Int) : Φ.fB 141 [.inr G, .inl a, .inl b] = linkB G a b := rfl
theorem aI150 (T : Tab) (i p : Int) : Φ.appI 150 [.inr T, .inl i, .inl p] = plcI T i p := rfl
theorem aL150 (T : Tab) (g i : Int) : Φ.appL 150 [.inr T, .inl g, .inl i] = clrF T g i := rfl
theorem aB150 (T : Tab) (i o p t : Int) : Φ.fB 150 [.inr T, .inl i, .inl o, .inl p, .inl t] = anyB T i o p t := rfl
theorem aB199 : Φ.fB 199 [] = false := rfl
end Go.SF.C19
