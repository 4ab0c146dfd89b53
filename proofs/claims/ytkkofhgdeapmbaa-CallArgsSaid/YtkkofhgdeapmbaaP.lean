/- What the functions of chapter 22 compute, in plain Lean; and the numbers by which the machine of unknowns names them. -/
import Derived.Test.YtkkofhgdeapmbaaSFSimp
namespace Go.SF.C22
open Go.SF
set_option linter.unusedVariables false

/-- A text. -/
abbrev T8 := List UInt8
def namesL : List T8 := [[], [99, 114, 101, 97, 116, 101], [100, 101, 115, 116, 114, 111, 121], [100, 111, 110, 97, 116, 101], [114, 101, 99, 108, 97, 105, 109], [112, 114, 111, 116, 101, 99, 116], [108, 111, 97, 100], [115, 116, 111, 114, 101],
  [111, 102, 102, 101, 114], [116, 97, 107, 101], [98, 97, 99, 107], [114, 101, 118, 111, 107, 101], [111, 112, 101, 110], [98, 105, 110, 100], [115, 101, 110, 100], [112, 111, 108, 108], [99, 108, 111, 115, 101], [115, 119, 101, 101, 112]]
def argsL : List Int := [0, 0, 1, 2, 1, 2, 1, 2, 3, 3, 1, 1, 1, 2, 1, 0, 1, 0]
def argsF (k : Int) : Int := if 1 ≤ k ∧ k ≤ 17 then argsL.getD k.toNat 0 else -1
def nameL (k : Int) : T8 := namesL.getD k.toNat []
def nameF (k : Int) : Int := encL (nameL k)
def KT : Tab := (List.range 17).map fun (i : Nat) => [(i : Int) + 1, nameF ((i : Int) + 1), argsF ((i : Int) + 1)]
/-- A number in digits. -/
def decG : Nat → Nat → T8
  | 0, _ => []
  | f + 1, w => if w < 10 then [UInt8.ofNat (48 + w)] else decG f (w / 10) ++ [UInt8.ofNat (48 + w % 10)]
def decL (w : Int) : T8 := decG 20 w.toNat
def decC (w : Int) : Int := encL (decL w)
def rightB (k a b c : Int) : Bool := decide (1 ≤ k) && (decide (k ≤ 17) && ((decide (0 < argsF k) || decide (a = 0)) && ((decide (1 < argsF k) || decide (b = 0)) && (decide (2 < argsF k) || decide (c = 0)))))
def partL (v : Int) : T8 := 32 :: decL v
def partsL (k a b c : Int) : T8 := ([a, b, c].take (argsF k).toNat).flatMap partL
def showL (k a b c : Int) : T8 := if rightB k a b c then nameL k ++ partsL k a b c else []
def showC (k a b c : Int) : Int := encL (showL k a b c)
/-- Up to the first blank, and behind it. -/
def cutA (s : T8) : T8 := s.takeWhile (· != 32)
def cutB (s : T8) : T8 := (s.dropWhile (· != 32)).tail
def cutC (s : T8) : Bool := s.contains 32
/-- No blank in the first i. -/
def noBl (s : T8) (i : Int) : Bool := (s.take i.toNat).all (· != 32)
def namedL (s : T8) : Int := match (namesL.drop 1).findIdx? (· == s) with
  | some i => (i : Int) + 1
  | none => -1
/-- The first p are digits, and tell n (as far as a word goes). -/
def digB (s : T8) : Bool := s.all fun b => decide (48 ≤ b.toNat) && decide (b.toNat ≤ 57)
def numL (s : T8) : Int := s.foldl (fun n b => (10 * n + ((b.toNat : Int) - 48)) % 18446744073709551616) 0
def numB (s : T8) (p n : Int) : Bool := digB (s.take p.toNat) && decide (numL (s.take p.toNat) = n)
def okN (s : T8) : Bool := digB s && decide (decL (numL s) = s)
/-- The rest of a text's numbers: so many are still to come. -/
def goP : Nat → T8 → Bool → List Int → Option (List Int)
  | 0, rest, more, vs => if more then none else some vs
  | m + 1, rest, more, vs => if more then (if okN (cutA rest) then goP m (cutB rest) (cutC rest) (vs ++ [numL (cutA rest)]) else none) else none
/-- The document's number of a text. -/
def stepR (n : Int) (b : UInt8) : Int := (10 * n + ((b.toNat : Int) - 48) % 256) % 18446744073709551616
def numR (s : T8) : Int := s.foldl stepR 0
/-- The document's words: what is done in the first n rounds, and where the next word begins. -/
def wordsA (s : T8) : Nat → List T8 × Nat
  | 0 => ([], 0)
  | n + 1 => if n ≥ s.length ∨ s[n]? = some 32 then ((wordsA s n).1 ++ [(s.take n).drop (wordsA s n).2], n + 1) else wordsA s n
def encW (l : List T8) : Tab := l.map fun t => [encL t]
def wordsL (s : T8) : List T8 := (wordsA s (s.length + 1)).1
/-- The document's kind of a name, among the first. -/
def kindA (t : T8) : Nat → Int
  | 0 => 0
  | n + 1 => if 1 ≤ n ∧ nameL (n : Int) = t then n else kindA t n
/-- A text's call: what is wrong, and the call. -/
def parseL (s : T8) : List Int :=
  if namedL (cutA s) = -1 then [4, 0, 0, 0, 0] else
  match goP (argsF (namedL (cutA s))).toNat (cutB s) (cutC s) [] with
  | none => [11, 0, 0, 0, 0]
  | some vs => [0, namedL (cutA s), vs.getD 0 0, vs.getD 1 0, vs.getD 2 0]
/-- Rows of a map that is gone through: those that are done have not this name. -/
def doneB (M : Tab) (s : Int) : Bool := decide (unflagT M = KT) && M.all fun r => decide (r.getD 3 0 = 1) || !decide (r.getD 1 0 = s)

/-- Words' call. -/
def decB (w0 a b c : Int) : Bool := decide (1 ≤ w0) && (decide (w0 ≤ 17) && rightB w0 a b c)
def decQ (A : Tab) : List Int := if A.length = 4 ∧ decB ((A.getD 0 []).getD 0 0) ((A.getD 1 []).getD 0 0) ((A.getD 2 []).getD 0 0) ((A.getD 3 []).getD 0 0) = true
  then [(A.getD 0 []).getD 0 0, (A.getD 1 []).getD 0 0, (A.getD 2 []).getD 0 0, (A.getD 3 []).getD 0 0, 1] else [0, 0, 0, 0, 0]
/-- How many blanks. -/
def cntB (s : T8) : Int := (s.filter (· == 32)).length
def fI : Nat → List Arg → Int
  | 100, [.inl k] => argsF k
  | 101, [.inl w] => decC w
  | 102, [.inl k, .inl a, .inl b, .inl c] => showC k a b c
  | 103, [.inl s] => encL (cutA (strB s))
  | 104, [.inl s] => encL (cutB (strB s))
  | 105, [.inl s] => namedL (strB s)
  | 106, [.inl s] => if digB (strB s) then numL (strB s) else 0
  | 107, [.inl s, .inl j] => (parseL (strB s)).getD j.toNat 0
  | 108, [.inl s, .inl n] => (wordsA (strB s) n.toNat).2
  | 109, [.inl s, .inl i] => numR ((strB s).take i.toNat)
  | 113, [.inl s] => numR (strB s)
  | 121, [.inr A, .inl j] => (decQ A).getD j.toNat 0
  | 123, [.inl s, .inl i] => cntB ((strB s).take i.toNat)
  | 124, [.inl s] => cntB (strB s)
  | 114, [.inl t, .inl i] => kindA (strB t) i.toNat
  | 115, [.inl t] => kindA (strB t) 18
  | _, _ => 0
def fL : Nat → List Arg → Tab
  | 110, [] => KT
  | 111, [.inl s, .inl n] => encW (wordsA (strB s) n.toNat).1
  | 112, [.inl s] => encW (wordsL (strB s))
  | _, _ => []
def fB : Nat → List Arg → Bool
  | 130, [.inl k, .inl a, .inl b, .inl c] => rightB k a b c
  | 131, [.inl s] => cutC (strB s)
  | 132, [.inl s, .inl i] => noBl (strB s) i
  | 133, [.inr M, .inl s] => doneB M s
  | 134, [.inl s, .inl p, .inl n] => numB (strB s) p n
  | 135, [.inl s] => okN (strB s)
  | 136, [.inl s] => digB (strB s)
  | _, _ => false
def Φ : Sig := ⟨fI, fL, fB, fun _ _ _ _ => True, fun _ _ _ _ _ _ _ => trivial⟩
theorem aI100 (k : Int) : Φ.appI 100 [.inl k] = argsF k := rfl
theorem aI101 (w : Int) : Φ.appI 101 [.inl w] = decC w := rfl
theorem aI102 (k a b c : Int) : Φ.appI 102 [.inl k, .inl a, .inl b, .inl c] = showC k a b c := rfl
theorem aI103 (s : Int) : Φ.appI 103 [.inl s] = encL (cutA (strB s)) := rfl
theorem aI104 (s : Int) : Φ.appI 104 [.inl s] = encL (cutB (strB s)) := rfl
theorem aI105 (s : Int) : Φ.appI 105 [.inl s] = namedL (strB s) := rfl
theorem aI106 (s : Int) : Φ.appI 106 [.inl s] = if digB (strB s) then numL (strB s) else 0 := rfl
theorem aI107 (s j : Int) : Φ.appI 107 [.inl s, .inl j] = (parseL (strB s)).getD j.toNat 0 := rfl
theorem aI108 (s n : Int) : Φ.appI 108 [.inl s, .inl n] = (wordsA (strB s) n.toNat).2 := rfl
theorem aI109 (s i : Int) : Φ.appI 109 [.inl s, .inl i] = numR ((strB s).take i.toNat) := rfl
theorem aI113 (s : Int) : Φ.appI 113 [.inl s] = numR (strB s) := rfl
theorem aI114 (t i : Int) : Φ.appI 114 [.inl t, .inl i] = kindA (strB t) i.toNat := rfl
theorem aI115 (t : Int) : Φ.appI 115 [.inl t] = kindA (strB t) 18 := rfl
theorem aI121 (A : Tab) (j : Int) : Φ.appI 121 [.inr A, .inl j] = (decQ A).getD j.toNat 0 := rfl
theorem aI123 (s i : Int) : Φ.appI 123 [.inl s, .inl i] = cntB ((strB s).take i.toNat) := rfl
theorem aI124 (s : Int) : Φ.appI 124 [.inl s] = cntB (strB s) := rfl
theorem aL111 (s n : Int) : Φ.appL 111 [.inl s, .inl n] = encW (wordsA (strB s) n.toNat).1 := rfl
theorem aL112 (s : Int) : Φ.appL 112 [.inl s] = encW (wordsL (strB s)) := rfl
theorem aB136 (s : Int) : Φ.fB 136 [.inl s] = digB (strB s) := rfl
theorem aL110 : Φ.appL 110 [] = KT := rfl
theorem aB130 (k a b c : Int) : Φ.fB 130 [.inl k, .inl a, .inl b, .inl c] = rightB k a b c := rfl
theorem aB131 (s : Int) : Φ.fB 131 [.inl s] = cutC (strB s) := rfl
theorem aB132 (s i : Int) : Φ.fB 132 [.inl s, .inl i] = noBl (strB s) i := rfl
theorem aB133 (M : Tab) (s : Int) : Φ.fB 133 [.inr M, .inl s] = doneB M s := rfl
theorem aB134 (s p n : Int) : Φ.fB 134 [.inl s, .inl p, .inl n] = numB (strB s) p n := rfl
theorem aB135 (s : Int) : Φ.fB 135 [.inl s] = okN (strB s) := rfl
theorem aB199 : Φ.fB 199 [] = false := rfl
end Go.SF.C22
