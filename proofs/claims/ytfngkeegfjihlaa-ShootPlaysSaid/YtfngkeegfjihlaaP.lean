/- What the functions of chapter 15 compute, in plain Lean; and the numbers by which the machine of unknowns names them. -/
import Derived.Test.YtfngkeegfjihlaaSFSimp
namespace Go.SF.C15
open Go.SF
set_option linter.unusedVariables false

/-! ### queues: each is the cells of what waits, three by three -/
abbrev rowL (M : Tab) (c : Int) : List Int := M.getD c.toNat []
/-- The ids of what waits. -/
def idsT : List Int → List Int
  | a :: _ :: _ :: r => a :: idsT r
  | _ => []
def cntQ (Q : Tab) (i : Int) : Int := (Q.countP fun q => (idsT q).contains i : Nat)
def rowQ (n : Int) (q : List Int) : Bool := decide (q.length % 3 = 0) && (decide (q.length ≤ 48) && (decide ((idsT q).Pairwise (· < ·)) && (idsT q).all fun i => decide (1 ≤ i) && decide (i ≤ n)))
def stQ (Q O : Tab) : Bool := Q.all (rowQ O.length) && (List.range O.length).all fun i => decide ((O.getD i []).getD 0 0 = cntQ Q ((i : Int) + 1))
def postQ (Q : Tab) (c id t p : Int) : Tab := Q.mapIdx fun i q => if (i : Int) = c then q else q ++ [id, t, p]
def takeQ (Q : Tab) (c : Int) : Tab := Q.modify c.toNat (·.drop 3)
def lenQ (Q : Tab) (c : Int) : Int := ((rowL Q c).length : Int) / 3
def fullQ (Q : Tab) (c : Int) : Bool := (List.range Q.length).any fun i => !decide ((i : Int) = c) && decide ((Q.getD i []).length = 48)
def msgQ (Q : Tab) (c j : Int) : Int := (rowL Q c).getD j.toNat 0
def decT (O : Tab) (id : Int) : Tab := O.modify (id - 1).toNat fun row => row.set 0 (row.getD 0 0 - 1)
def doneB (O : Tab) (id : Int) : Bool := decide (1 ≤ id) && (decide (id ≤ O.length) && decide ((O.getD (id - 1).toNat []).getD 0 0 = 0))
def openN (O : Tab) : Nat → Nat → Tab
  | 0, _ => []
  | n + 1, i => (if 0 < (O.getD i []).getD 0 0 then [[(i : Int) + 1]] else []) ++ openN O n (i + 1)
def openT (O : Tab) (i : Int) : Tab := openN O (O.length - i.toNat) i.toNat

/-! ### channels: a row for each, its number first -/
def layT (B Q : Tab) : Tab := List.zipWith (fun b q => hdK b :: q) B Q
def okB (B : Tab) : Bool := decide ((B.map hdK).Nodup) && B.all fun r => decide (r = [hdK r])
def hdsT (M : Tab) : Tab := M.map fun r => [hdK r]
def keyF (M : Tab) (c : Int) : Int := hdK (rowL M c)
def qLen (M : Tab) (c : Int) : Int := ((rowL M c).length - 1 : Nat) / 3
def idsR (r : List Int) : List Int := idsT r.tail
def cntId (M : Tab) (i : Int) : Int := (M.countP fun r => (idsR r).contains i : Nat)
def rowOK (n : Int) (r : List Int) : Bool :=
  decide (1 ≤ r.length) && (decide ((r.length - 1) % 3 = 0) && (decide (r.length ≤ 49) && (decide ((idsR r).Pairwise (· < ·)) && (idsR r).all fun i => decide (1 ≤ i) && decide (i ≤ n))))
def stB (B M O : Tab) : Bool := decide (B = hdsT M) && (decide ((M.map hdK).Nodup) && (M.all (rowOK O.length) && (List.range O.length).all fun i => decide ((O.getD i []).getD 0 0 = cntId M ((i : Int) + 1))))
def postT (M : Tab) (c id t p : Int) : Tab := M.map fun r => if hdK r = keyF M c then r else r ++ [id, t, p]
def takeT (M : Tab) (c : Int) : Tab := rcvT M (keyF M c) 3
def fullB (M : Tab) (c : Int) : Bool := M.any fun r => !decide (hdK r = keyF M c) && decide (r.length = 49)
def subB (L M : Tab) : Bool := L.all fun r => decide (0 < (findK M (hdK r)).length)
def anyF (L M : Tab) (i : Int) : Bool := (L.drop i.toNat).any fun r => decide (cntT M (hdK r) 3 = 16)
def sendB (L M : Tab) (i : Int) : Bool := (M.all fun r => decide (r ≠ [])) && (decide (((L.drop i.toNat).map hdK).Nodup) && (L.drop i.toNat).all fun r => decide (0 < (findK M (hdK r)).length) && decide (cntT M (hdK r) 3 < 16))
def sendT (L M : Tab) (i id t p : Int) : Tab := (L.drop i.toNat).foldl (fun M r => sndT M (hdK r) [id, t, p]) M
/-- An ask's cells. -/
def msgI (M : Tab) (c j : Int) : Int := (rowL M c).getD (j.toNat + 1) 0

/-! ### laws -/
/-- Asks 1 .. k of one tag, pages 0 .. -/
def msgs (k : Nat) (t : Int) : List Int := (List.range k).flatMap fun (i : Nat) => [(i : Int) + 1, t, (i : Int)]
def seqQ (n k t : Int) : Tab := [] :: List.replicate (n - 1).toNat (msgs k.toNat t)
def takS (n c t : Int) : Tab := (List.range n.toNat).map fun (i : Nat) => if i = 0 then [] else if (i : Int) < c then (msgs 16 t).drop 3 else msgs 16 t
def takO (n c : Int) : Tab := [n - c] :: List.replicate 15 [n - 1]
/-- Nothing waits in the first ones. -/
def emptyB (Q : Tab) (c : Int) : Bool := (Q.take c.toNat).all fun q => decide (q = [])

/-- ShootOnce: who posted what (F), how often each was taken (K), which one each took last (L). -/
def onceB (Q O F K L : Tab) (n : Int) : Bool := decide (O.length = F.length) && (decide ((Q.length : Int) = n) && (decide (K.length = 200) && (decide ((L.length : Int) = n) &&
  ((List.range 200).all (fun i => decide ((K.getD i []).getD 0 0 = if i = 0 ∨ F.length < i then 0 else n - 1 - (O.getD (i - 1) []).getD 0 0)) &&
  (List.range Q.length).all fun c => decide ((L.getD c []).getD 0 0 ≤ F.length) && (decide (0 ≤ (L.getD c []).getD 0 0) && (idsT (Q.getD c [])).all fun i => decide ((L.getD c []).getD 0 0 < i) && !decide ((F.getD (i - 1).toNat []).getD 0 0 = c))))))

/-! ### the document's answer: the same queues, and how many asks there were -/
def rqB (Q : Tab) (n : Int) : Bool := Q.all (rowQ n)
def inR (Q : Tab) (i k id : Int) : Bool := ((rowN 3 Q i).drop k.toNat).any fun r => decide (r.getD 0 0 = id)
def inA (Q : Tab) (i id : Int) : Bool := (List.range Q.length).any fun j => decide (i ≤ (j : Int)) && inR Q j 0 id
def doneR (Q : Tab) (n id : Int) : Bool := !inA Q 0 id && (decide (1 ≤ id) && decide (id ≤ n))
def openRN (Q : Tab) (n : Int) : Nat → Int → Tab
  | 0, _ => []
  | f + 1, i => (if doneR Q n i then [] else [[i]]) ++ openRN Q n f (i + 1)
def openR (Q : Tab) (n i : Int) : Tab := openRN Q n (n + 1 - i).toNat i
def fullG (Q : Tab) (c i : Int) : Bool := (List.range Q.length).any fun j => decide (i ≤ (j : Int)) && (!decide ((j : Int) = c) && decide (16 ≤ (rowN 3 Q j).length))
def postG (Q : Tab) (c id t p i : Int) : Tab := Q.mapIdx fun j q => if (j : Int) = c ∨ (j : Int) < i then q else q ++ [id, t, p]
/-- From row i on none is too long. -/
def lowB (Q : Tab) (i : Int) : Bool := (List.range Q.length).all fun j => decide ((j : Int) < i) || decide ((rowN 3 Q j).length ≤ 16)
/-- Two rows of numbers are alike up to place i. -/
def preB (A B : Tab) (i : Int) : Bool := decide (A.length = B.length) && decide (A.take i.toNat = B.take i.toNat)
def fI : Nat → List Arg → Int
  | 100, [.inr Q, .inl c] => lenQ Q c
  | 101, [.inr Q, .inl c, .inl j] => msgQ Q c j
  | 102, [.inr Q, .inl c] => if 0 ≤ c ∧ c < Q.length then lenQ Q c else 0
  | _, _ => 0
def fL : Nat → List Arg → Tab
  | 110, [.inr Q, .inl c, .inl id, .inl t, .inl p] => postQ Q c id t p
  | 111, [.inr Q, .inl c] => takeQ Q c
  | 112, [.inr O, .inl id] => decT O id
  | 113, [.inr O, .inl i] => openT O i
  | 114, [.inr L, .inr M, .inl i, .inl id, .inl t, .inl p] => sendT L M i id t p
  | 115, [.inr B, .inr Q] => layT B Q
  | 116, [.inl n, .inl k, .inl t] => seqQ n k t
  | 117, [.inl n, .inl c, .inl t] => takS n c t
  | 118, [.inl n, .inl c] => takO n c
  | 119, [.inr Q, .inl c, .inl id, .inl t, .inl p, .inl i] => postG Q c id t p i
  | 120, [.inr Q, .inl n, .inl i] => openR Q n i
  | _, _ => []
def fB : Nat → List Arg → Bool
  | 130, [.inr Q, .inr O] => stQ Q O
  | 131, [.inr Q, .inl c] => fullQ Q c
  | 132, [.inr L, .inr M] => subB L M
  | 133, [.inr L, .inr M, .inl i] => anyF L M i
  | 134, [.inr L, .inr M, .inl i] => sendB L M i
  | 135, [.inr O, .inl id] => doneB O id
  | 136, [.inr B] => okB B
  | 137, [.inr Q, .inl c] => emptyB Q c
  | 138, [.inr Q, .inr O, .inr F, .inr K, .inr L, .inl n] => onceB Q O F K L n
  | 139, [.inr Q, .inl n] => rqB Q n
  | 140, [.inr Q, .inl i, .inl k, .inl id] => inR Q i k id
  | 141, [.inr Q, .inl i, .inl id] => inA Q i id
  | 142, [.inr A, .inr B, .inl i] => preB A B i
  | 143, [.inr Q, .inl c, .inl i] => fullG Q c i
  | 144, [.inr Q, .inl n, .inl id] => doneR Q n id
  | 145, [.inr Q, .inl i] => lowB Q i
  | _, _ => false
def Φ : Sig := ⟨fI, fL, fB, fun _ _ _ _ => True, fun _ _ _ _ _ _ _ => trivial⟩
theorem aI100 (M : Tab) (c : Int) : Φ.appI 100 [.inr M, .inl c] = lenQ M c := rfl
theorem aI101 (M : Tab) (c j : Int) : Φ.appI 101 [.inr M, .inl c, .inl j] = msgQ M c j := rfl
theorem aL110 (M : Tab) (c id t p : Int) : Φ.appL 110 [.inr M, .inl c, .inl id, .inl t, .inl p] = postQ M c id t p := rfl
theorem aL111 (M : Tab) (c : Int) : Φ.appL 111 [.inr M, .inl c] = takeQ M c := rfl
theorem aL112 (O : Tab) (id : Int) : Φ.appL 112 [.inr O, .inl id] = decT O id := rfl
theorem aL113 (O : Tab) (i : Int) : Φ.appL 113 [.inr O, .inl i] = openT O i := rfl
theorem aL114 (L M : Tab) (i id t p : Int) : Φ.appL 114 [.inr L, .inr M, .inl i, .inl id, .inl t, .inl p] = sendT L M i id t p := rfl
theorem aL115 (B Q : Tab) : Φ.appL 115 [.inr B, .inr Q] = layT B Q := rfl
theorem aB130 (M O : Tab) : Φ.fB 130 [.inr M, .inr O] = stQ M O := rfl
theorem aB131 (M : Tab) (c : Int) : Φ.fB 131 [.inr M, .inl c] = fullQ M c := rfl
theorem aB132 (L M : Tab) : Φ.fB 132 [.inr L, .inr M] = subB L M := rfl
theorem aB133 (L M : Tab) (i : Int) : Φ.fB 133 [.inr L, .inr M, .inl i] = anyF L M i := rfl
theorem aB134 (L M : Tab) (i : Int) : Φ.fB 134 [.inr L, .inr M, .inl i] = sendB L M i := rfl
theorem aB135 (O : Tab) (id : Int) : Φ.fB 135 [.inr O, .inl id] = doneB O id := rfl
theorem aB136 (B : Tab) : Φ.fB 136 [.inr B] = okB B := rfl
theorem aL116 (n k t : Int) : Φ.appL 116 [.inl n, .inl k, .inl t] = seqQ n k t := rfl
theorem aL117 (n c t : Int) : Φ.appL 117 [.inl n, .inl c, .inl t] = takS n c t := rfl
theorem aL118 (n c : Int) : Φ.appL 118 [.inl n, .inl c] = takO n c := rfl
theorem aB137 (Q : Tab) (c : Int) : Φ.fB 137 [.inr Q, .inl c] = emptyB Q c := rfl
theorem aB138 (Q O F K L : Tab) (n : Int) : Φ.fB 138 [.inr Q, .inr O, .inr F, .inr K, .inr L, .inl n] = onceB Q O F K L n := rfl
theorem aL119 (Q : Tab) (c id t p i : Int) : Φ.appL 119 [.inr Q, .inl c, .inl id, .inl t, .inl p, .inl i] = postG Q c id t p i := rfl
theorem aL120 (Q : Tab) (n i : Int) : Φ.appL 120 [.inr Q, .inl n, .inl i] = openR Q n i := rfl
theorem aB139 (Q : Tab) (n : Int) : Φ.fB 139 [.inr Q, .inl n] = rqB Q n := rfl
theorem aB140 (Q : Tab) (i k id : Int) : Φ.fB 140 [.inr Q, .inl i, .inl k, .inl id] = inR Q i k id := rfl
theorem aB141 (Q : Tab) (i id : Int) : Φ.fB 141 [.inr Q, .inl i, .inl id] = inA Q i id := rfl
theorem aB142 (A B : Tab) (i : Int) : Φ.fB 142 [.inr A, .inr B, .inl i] = preB A B i := rfl
theorem aB143 (Q : Tab) (c i : Int) : Φ.fB 143 [.inr Q, .inl c, .inl i] = fullG Q c i := rfl
theorem aB144 (Q : Tab) (n id : Int) : Φ.fB 144 [.inr Q, .inl n, .inl id] = doneR Q n id := rfl
theorem aB145 (Q : Tab) (i : Int) : Φ.fB 145 [.inr Q, .inl i] = lowB Q i := rfl
theorem aI102 (Q : Tab) (c : Int) : Φ.appI 102 [.inr Q, .inl c] = if 0 ≤ c ∧ c < Q.length then lenQ Q c else 0 := rfl
theorem aB199 : Φ.fB 199 [] = false := rfl
end Go.SF.C15
