/- Contracts of chapter 21: the packages under it, together. Contracts of chapter 21: the package sched, as the law of wakes uses it. Contracts of chapter 21: one that is picked, one that yields; Dispatch and Leave; turns; the law of turns. Contracts of chapter 21: what an event makes of one, and of all, whatever happens. Contracts of chapter 21: the package sched, whatever happens. Contracts of chapter 21: time goes on. Contracts of chapter 21: the law that none is in two places. -/
import Derived.Test.YtnhdohhhgfdhfaaCQ
import Derived.Test.YtnhdohhhgfdhfaaCT
namespace Go.SF.C21
open Go Go.SF Go.Proofs
set_option linter.unusedVariables false

def pt (j : Nat) : AV := .cv (.p (some ⟨j, .c 0, 0⟩))
def ii (x : SI) : AV := .cv (.i .i64 x)
def bb (x : SB) : AV := .cv (.b x)
def x0 : SI := .v 0
noncomputable def b1 : Tbl := addFn Φ (addFn Φ (addFn Φ (addFn Φ (addFn Φ T.t6 Q.cNew) Q.cPush) Q.cPop) Q.cDrop) Q.cList
def cKnown : FnC := FnC.mk 30 [] [] [] [TOut.mk [] .norm [(0, bb (.c true))] [] []]
noncomputable def b2 : Tbl := addFn Φ noTbl cKnown
def yes (s : List AObj) : TOut := TOut.mk [] .norm [(0, bb (.c true))] s []
def noF (s : List AObj) : TOut := TOut.mk [.app 199 .nil] .norm [(0, bb (.c false))] s []
end Go.SF.C21
namespace Go.SF.C21
open Go Go.SF Go.Proofs
set_option linter.unusedVariables false

def x1 : SI := .v 1
def x2 : SI := .v 2
def TQ : SL := .v 0
def MQ : SL := .v 1
def TT : SL := .v 2
def CT : SL := .v 3
def RR : SL := .v 4
def OO : SL := .v 5
def n9 : SI := .v 9
def q8 : SI := .v 8
def rep (xs : List SI) : SL := .app 5 (saI xs)
def K10 : List CK := [.i .i64, .i .i64, .b, .b, .i .u64, .i .u64, .i .u64, .i .u64, .i .i64, .i .i64]
def onO (O : SL) : AObj := .abs (.vec K10 88) O
def sC (ones runs : CV) : AObj := .cells [ones, .p (some ⟨1, .c 0, 0⟩), .p (some ⟨5, .c 0, 0⟩), runs] 76
def qCs (A : SL) : AObj := .cells [.vs 2 (.c 0) (.len A) none, .i .i64 (.c 64), .m (some 4)] 109
def vI (A : SL) : AObj := .abs (.vec [.i .i64] 3) A
/-- The queues, the timers, and who runs. -/
def in8 (ones : CV) (A M B C R : SL) (q n : SI) (k : Nat) : List AObj :=
  [sC ones (.vs k (.c 0) (.len R) none), qCs A, .dead, .lists 2 [.i .i64] 3 36 A none, Q.mpO M, T.tmC q n 6 7, T.mapT B, T.mapC C]
def nil : CV := .sl none (.c 0) (.c 0)
/-- New's loop. -/
def nwO (R : SL) : List AObj := in8 nil TQ MQ TT CT R q8 n9 8 ++ [vI R]
def kN : SI := .sub x0 x1
/-- With k CPUs all is written out. -/
def emp (k : Nat) : SL := .lit (List.replicate k [])
def idl (k : Nat) : SL := .lit (List.replicate k [-1])
def cQN (k : Nat) : FnC := FnC.mk 31 [ii x0, ii (.c 64)] [] [.eq x0 (.c k)]
  [TOut.mk [.app 130 (.l (emp k) (.l (.lit []) (.i (.c 64) .nil)))] .norm [(0, Q.tup (.p (some ⟨0, .c 0, 0⟩)) (.i .i64 (.c 0)))]
    [.cells [.vs 1 (.c 0) (.c k) none, .i .i64 (.c 64), .m (some 3)] 109, .dead, .lists 1 [.i .i64] 3 36 (emp k) none, Q.mpO (.lit [])] []]
def nwK (k : Nat) : LpC := LpC.mk 9 9 44
  (Tm.mk [(9, pt 0), (30, ii x0), (31, ii x1)] (nwO RR) [.eq x0 (.c k), .le (.c 0) x1, .le x1 x0, .eq (.len RR) x1, .c true, .eqL RR (rep [x1, .c (-1)])])
  [TOut.mk [] (.exit 0) [(9, pt 0)] (sC nil (.vs 9 (.c 0) (.c k) none) :: (nwO RR).tail.dropLast ++ [.dead, vI (idl k)]) [0, 8]]
noncomputable def nwA : Nat → Tbl → Tbl
  | 0, t => t
  | k + 1, t => addLp Φ (nwA k t) (nwK (k + 1))
noncomputable def qnA : Nat → Tbl → Tbl
  | 0, t => t
  | k + 1, t => addFn Φ (qnA k t) (cQN (k + 1))
def cArmW : FnC := FnC.mk 46 [pt 0, ii x0, ii x1, ii (.c 0)] (T.tmO q8 n9 (.lit []) T.C1) (T.qs ++ [.le (.c 0) x0, .lt n9 x1, .le x1 (.c 1099511627776)])
  [TOut.mk [] .norm [(0, ii (.c 0))] (T.tmO q8 n9 (.app 3 (saI [x0, x1, .c 0])) T.C1) [1]]
def tck : List SB := T.qs ++ [.lt (.len T.T0) (.c 80000), .le n9 x0, .le x0 (.c 549755813888)]
def cTickE : FnC := FnC.mk 49 [pt 0, ii x0] (T.tmO q8 n9 T.T0 T.C1) (tck ++ [.c true, .app 301 (.l T.T0 (.i x0 .nil))])
  [TOut.mk [] .norm [(0, T.tup (.vs 3 (.c 0) (.c 0) none) (.i .i64 (.c 0)))] (T.tmO q8 x0 T.T0 T.C1 ++ [T.fireO (.lit [])]) [0, 1]]
def one1 (x e : SI) : SL := .app 3 (saI [.c 1, x, e])
def cTickD : FnC := FnC.mk 49 [pt 0, ii x0] (T.tmO q8 n9 T.T0 T.C1) (tck ++ [.eq x0 (.sel T.T0 (.c 0) 1), .c true, .eqL T.T0 (one1 x0 (.c 0))])
  [TOut.mk [] .norm [(0, T.tup (.vs 3 (.c 0) (.len (one1 x0 (.c 1))) none) (.i .i64 (.c 0)))] (T.tmO q8 x0 (.lit []) T.C1 ++ [T.fireO (one1 x0 (.c 1))]) [0, 1]]
noncomputable def w3 : Tbl := qnA 8 (nwA 8 (addFn Φ (addFn Φ (addFn Φ (addFn Φ b1 cKnown) cArmW) cTickE) cTickD))
end Go.SF.C21
namespace Go.SF.C21
open Go Go.SF Go.Proofs
set_option linter.unusedVariables false

/-- The state: who there is, the queues, the timers, who runs. -/
def sO (A M B C R O : SL) (q n : SI) : List AObj := in8 (.vs 9 (.c 0) (.len O) none) A M B C R q n 8 ++ [vI R, onO O]
/-- The same, where the queues have come to lie at the end. -/
def sO' (A M B C R O : SL) (q n : SI) : List AObj := [sC (.vs 9 (.c 0) (.len O) none) (.vs 8 (.c 0) (.len R) none), qCs A, .dead, .dead, Q.mpO M, T.tmC q n 6 7, T.mapT B, T.mapC C] ++ [vI R, onO O] ++ [.lists 2 [.i .i64] 3 36 A none]
def sP : List SB := [.le (.c 1) (.len TQ), .le (.len TQ) (.c 8), .eq (.len RR) (.len TQ), .le (.len OO) (.c 64), .le (.c 1) q8, .le q8 (.c 10000)]
def oe (i : SI) (j : Nat) : SI := .sel OO i j
def invQ (A M : SL) : SB := .app 130 (.l A (.l M (.i (.c 64) .nil)))
def setO (i s on : SI) : SL := .app 310 (.l OO (.i i (.i s (.i on .nil))))
def setR (i x : SI) : SL := .app 4 (.l RR (.i i (.i (.c 0) (.i x .nil))))
def still (i : SI) : List SB := [.eq (oe i 2) (.c 0), .eq (oe i 3) (.c 0), .eq (oe i 8) (.c 0)]
def D0 : SL := .v 1000
def dropQ (i : SI) : SL := .app 112 (.l TQ (.i i .nil))
def cPick : FnC := FnC.mk 37 [pt 0, ii x0, ii (.c 2), ii x1, ii x2] (sO TQ MQ TT CT RR OO q8 n9)
  (sP ++ [.c true, .le (.c 0) x0, .lt x0 (.len OO), .le (.c 0) x1, .lt x1 (.len TQ), invQ TQ MQ, .eq (oe x0 0) (.c 1), .eq (oe x0 1) (.c (-1))] ++ still x0)
  [TOut.mk [.eq (.len (setO x0 (.c 2) x1)) (.len OO), .eq (.len (dropQ x0)) (.len TQ), invQ (dropQ x0) D0] .norm [(0, ii (.c 0))] (sO' (dropQ x0) D0 TT CT (setR x1 x0) (setO x0 (.c 2) x1) q8 n9) [3, 4, 8, 9]]
def pushQ (c i : SI) : SL := .app 110 (.l TQ (.i c (.i i (.i (.c 64) .nil))))
def cYld : FnC := FnC.mk 37 [pt 0, ii x0, ii (.c 3), ii (.c 0), ii x1] (sO TQ MQ TT CT RR OO q8 n9)
  (sP ++ [.c true, .le (.c 0) x0, .lt x0 (.len OO), .le (.c 0) x1, .lt x1 (.len TQ), invQ TQ MQ, .eq (oe x0 0) (.c 2), .eq (oe x0 1) x1] ++ still x0)
  [TOut.mk [.eq (.len (setO x0 (.c 1) (.c (-1)))) (.len OO), .eq (.len (pushQ x1 x0)) (.len TQ), invQ (pushQ x1 x0) D0] .norm [(0, ii (.c 0))] (sO' (pushQ x1 x0) D0 TT CT (setR x1 (.c (-1))) (setO x0 (.c 1) (.c (-1))) q8 n9) [3, 4, 8, 9]]
noncomputable def s1 : Tbl := addFn Φ (addFn Φ b1 cPick) cYld
/-- Dispatch, Leave, where all are ready or run. -/
def srv (O A R : SL) : SB := .app 310 (.l O (.l A (.l R .nil)))
def anyQ (A : SL) : SB := .app 132 (.l A .nil)
def tup (x y : CV) : AV := .tup [.inl x, .inl y]
def pX : SI := .app 112 (.l TQ (.i x1 .nil))
def pQ : SL := .app 111 (.l TQ (.i x1 .nil))
def D1 : SL := .v 1001
def sQ : List SB := sP ++ [.le (.len OO) (.c 20), .c true, .le (.c 0) x1, .lt x1 (.len TQ), invQ TQ MQ, srv OO TQ RR]
def cDisp : FnC := FnC.mk 15 [pt 0, ii x1] (sO TQ MQ TT CT RR OO q8 n9) (sQ ++ [.eq (.sel RR x1 0) (.c (-1))])
  [TOut.mk [.not (anyQ TQ)] .norm [(0, tup (.i .i64 (.c 0)) (.i .i64 (.c 4)))] (sO' TQ MQ TT CT RR OO q8 n9) [3],
   TOut.mk [anyQ TQ, .le (.c 0) pX, .lt pX (.len OO), .eq (.len (setO pX (.c 2) x1)) (.len OO), .eq (.len pQ) (.len TQ), invQ pQ D0, srv (setO pX (.c 2) x1) pQ (setR x1 pX)] .norm [(0, tup (.i .i64 pX) (.i .i64 (.c 0)))]
     (sO' pQ D0 TT D1 (setR x1 pX) (setO pX (.c 2) x1) q8 n9) [3, 4, 7, 8, 9]]
def rX : SI := .sel RR x1 0
def lQ : SL := .app 115 (.l TQ (.i x1 (.i rX .nil)))
def cLeave : FnC := FnC.mk 17 [pt 0, ii x1, ii (.c 3)] (sO TQ MQ TT CT RR OO q8 n9) sQ
  [TOut.mk [.eq rX (.c (-1))] .norm [(0, ii (.c 4))] (sO TQ MQ TT CT RR OO q8 n9) [],
   TOut.mk [.not (.eq rX (.c (-1))), .eq (.len (setO rX (.c 1) (.c (-1)))) (.len OO), .eq (.len lQ) (.len TQ), invQ lQ D0, srv (setO rX (.c 1) (.c (-1))) lQ (setR x1 (.c (-1)))] .norm [(0, ii (.c 0))]
     (sO' lQ D0 TT CT (setR x1 (.c (-1))) (setO rX (.c 1) (.c (-1))) q8 n9) [3, 4, 8, 9]]
end Go.SF.C21
namespace Go.SF.C21
open Go Go.SF Go.Proofs
set_option linter.unusedVariables false

noncomputable def s2 : Tbl := addFn Φ (addFn Φ b1 cDisp) cLeave
def NN : SL := .v 6
def x3 : SI := .v 10
/-- With who ran; the queues moved to the end. -/
def sN (A M B C R O N : SL) (q n : SI) : List AObj := sO A M B C R O q n ++ [vI N]
def sN' (A M B C R O N : SL) (q n : SI) : List AObj := (sO' A M B C R O q n).dropLast ++ [vI N] ++ [.lists 2 [.i .i64] 3 36 A none]
def nV : SI := .v 11
def kV : SI := .v 12
def svE : List (Nat × AV) := [(5, ii nV), (6, ii kV), (7, pt 0), (12, .cv (.vs 10 (.c 0) (.len NN) none))]
def f4 (f : Nat) (c : SI) : SL := .app f (.l TQ (.l RR (.l NN (.i c .nil))))
def f3 (f : Nat) (c : SI) : SL := .app f (.l TQ (.l RR (.i c .nil)))
def idle (R : SL) (c : SI) : SB := .app 320 (.l R (.i c .nil))
def D2 : SL := .v 1002
def svP0 : List SB := sP ++ [.eq (.len TQ) nV, .eq (.len OO) kV, .le (.len OO) (.c 20)]
def svP : List SB := svP0 ++ [.eq (.len NN) (.len OO)]
def svQ : List SB := [.c true, invQ TQ MQ, srv OO TQ RR]
def sv17 : LpC := LpC.mk 5 17 106 (Tm.mk (svE ++ [(13, ii x3), (14, ii x1)]) (sN TQ MQ TT CT RR OO NN q8 n9) (svP ++ [.le (.c 0) x1, .le x1 (.len TQ)] ++ svQ ++ [idle RR x1]))
  [TOut.mk [.eq (.len (f4 320 x1)) (.len TQ), .eq (.len (f4 321 x1)) (.len TQ), .eq (.len (f4 322 x1)) (.len OO), .eq (.len D2) (.len OO), invQ (f4 320 x1) D0, srv D2 (f4 320 x1) (f4 321 x1)] (.exit 4)
    [(5, ii nV), (6, ii kV), (7, pt 0), (12, .cv (.vs 10 (.c 0) (.len (f4 322 x1)) none)), (13, ii x3)] (sN' (f4 320 x1) D0 TT D1 (f4 321 x1) D2 (f4 322 x1) q8 n9) [3, 4, 7, 8, 9, 10]]
def sv23 : LpC := LpC.mk 5 23 106 (Tm.mk (svE ++ [(13, ii x3), (17, ii x1)]) (sN TQ MQ TT CT RR OO NN q8 n9) (svP ++ [.le (.c 0) x1, .le x1 (.len TQ)] ++ svQ))
  [TOut.mk [.eq (.len (f3 323 x1)) (.len TQ), .eq (.len (f3 324 x1)) (.len TQ), .eq (.len D2) (.len OO), invQ (f3 323 x1) D0, srv D2 (f3 323 x1) (f3 324 x1)] (.exit 6)
    (svE ++ [(13, ii x3)]) (sN' (f3 323 x1) D0 TT CT (f3 324 x1) D2 NN q8 n9) [3, 4, 8, 9]]
noncomputable def s3 : Tbl := addLp Φ (addLp Φ s2 sv17) sv23
end Go.SF.C21
namespace Go.SF.C21
open Go Go.SF Go.Proofs
set_option linter.unusedVariables false

/-- New's loop, for any number of CPUs. -/
def nwG : LpC := LpC.mk 9 9 44
  (Tm.mk [(9, pt 0), (30, ii x0), (31, ii x1)] (nwO RR) [.le (.c 0) x1, .le x1 x0, .le (.c 1) x0, .le x0 (.c 8), .eq (.len RR) x1, .c true, .eqL RR (rep [x1, .c (-1)])])
  [TOut.mk [.eq (.len (rep [x0, .c (-1)])) x0] (.exit 0) [(9, pt 0)] (sC nil (.vs 9 (.c 0) (.len (rep [x0, .c (-1)])) none) :: (nwO RR).tail.dropLast ++ [.dead, vI (rep [x0, .c (-1)])]) [0, 8]]
/-- Add; Start. -/
def addO (x : SI) : SL := .app 311 (.l OO (.i x .nil))
def newR (O : SL) (i : SI) : List SB := [.eq (.sel O i 0) (.c 0), .eq (.sel O i 1) (.c (-1)), .eq (.sel O i 2) (.c 0), .eq (.sel O i 3) (.c 0), .eq (.sel O i 8) (.c 0)]
def sA (A M B C R O : SL) (q n : SI) : List AObj := in8 (.vs 10 (.c 0) (.len O) none) A M B C R q n 8 ++ [vI R, .dead, onO O]
def cAdd : FnC := FnC.mk 11 [pt 0, ii x2] (sO TQ MQ TT CT RR OO q8 n9) (sP ++ [.lt (.len OO) (.c 64), .le (.c 1) x2, .le x2 (.c 16)])
  [TOut.mk ([.eq (.len (addO x2)) (.add (.len OO) (.c 1))] ++ newR (addO x2) (.len OO)) .norm [(0, tup (.i .i64 (.len OO)) (.i .i64 (.c 0)))] (sA TQ MQ TT CT RR (addO x2) q8 n9) [0, 9]]
def cStart : FnC := FnC.mk 37 [pt 0, ii x0, ii (.c 1), ii (.c 0), ii x1] (sO TQ MQ TT CT RR OO q8 n9)
  (sP ++ [.c true, .le (.c 0) x0, .lt x0 (.len OO), .le (.c 0) x1, .lt x1 (.len TQ), invQ TQ MQ] ++ newR OO x0)
  [TOut.mk [.eq (.len (setO x0 (.c 1) (.c (-1)))) (.len OO), .eq (.len (pushQ x1 x0)) (.len TQ), invQ (pushQ x1 x0) D0] .norm [(0, ii (.c 0))] (sO' (pushQ x1 x0) D0 TT CT RR (setO x0 (.c 1) (.c (-1))) q8 n9) [3, 4, 9]]
noncomputable def a1 : Tbl := addFn Φ (addFn Φ b1 cAdd) cStart
def begA : SL := .app 328 (.l TQ (.i x1 (.i kV .nil)))
def sBg (A M B C R O : SL) (q n : SI) : List AObj := [sC (.vs 11 (.c 0) (.len O) none) (.vs 8 (.c 0) (.len R) none), qCs A, .dead, .dead, Q.mpO M, T.tmC q n 6 7, T.mapT B, T.mapC C] ++ [vI R, .dead] ++ [.lists 2 [.i .i64] 3 36 A none, onO O]
def sv7 : LpC := LpC.mk 5 7 106 (Tm.mk [(5, ii nV), (6, ii kV), (7, pt 0), (9, ii x1)] (sO TQ MQ TT CT RR OO q8 n9) (sP ++ [.eq (.len TQ) nV, .le (.c 0) x1, .le x1 kV, .le kV (.c 20), .eq (.len OO) x1] ++ svQ))
  [TOut.mk [.eq (.len begA) (.len TQ), .eq (.len D2) kV, invQ begA D0, srv D2 begA RR] (.exit 0) [(5, ii nV), (6, ii kV), (7, pt 0)] (sBg begA D0 TT CT RR D2 q8 n9) [0, 3, 4, 9]]
noncomputable def s4 : Tbl := addLp Φ a1 sv7
end Go.SF.C21
namespace Go.SF.C21
open Go Go.SF Go.Proofs
set_option linter.unusedVariables false

/-- vcpu.Next, of a row. -/
def celB (O : SL) (i : SI) (j : Nat) : CV := .b (.not (.eq (.sel O i j) (.c 0)))
def celI (O : SL) (i : SI) (j : Nat) : CV := .i .i64 (.sel O i j)
def celU (O : SL) (i : SI) (j : Nat) : CV := .i .u64 (.sel O i j)
def rowV (O : SL) (i : SI) : List CV := [celI O i 0, celI O i 1, celB O i 2, celB O i 3, celU O i 4, celU O i 5, celU O i 6, celU O i 7, celI O i 8]
def rowN (N O : SL) (i : SI) : List CV := [celI N (.c 0) 0, celI N (.c 0) 1, celB N (.c 0) 2, celB N (.c 0) 3, celU O i 4, celU O i 5, celU O i 6, celU O i 7, celI O i 8]
def noV : List CV := [.i .i64 (.c 0), .i .i64 (.c 0), .b (.c false), .b (.c false), .i .u64 (.c 0), .i .u64 (.c 0), .i .u64 (.c 0), .i .u64 (.c 0), .i .i64 (.c 0)]
def f1 (f : Nat) (A : SL) (xs : List SI) : SL := .app f (.l A (saI xs))
def f2 (f : Nat) (A B : SL) (xs : List SI) : SL := .app f (.l A (.l B (saI xs)))
def g1 (f : Nat) (A : SL) (xs : List SI) : SB := .app f (.l A (saI xs))
def i1 (f : Nat) (A : SL) (xs : List SI) : SI := .app f (.l A (saI xs))
def nxN : SL := f1 330 OO [x0, x1, x2]
def bit (x : SI) : List SB := [.le (.c 0) x, .le x (.c 1)]
def nxOuts : List TOut :=
  [TOut.mk ([g1 330 OO [x0, x1, x2]] ++ bit (.sel nxN (.c 0) 2) ++ bit (.sel nxN (.c 0) 3)) .norm [(0, .tup [.inr (rowN nxN OO x0), .inl (.i .i64 (.c 0))])] [] [],
   TOut.mk [.not (g1 330 OO [x0, x1, x2])] .norm [(0, .tup [.inr noV, .inl (.i .i64 (.c 6))])] [] []]
def cNext0 : FnC := FnC.mk 54 [.agg (rowV OO x0), ii x1, ii x2] [] [.le (.c 1) x1, .le x1 (.c 8), .le (.c 0) x2, .le x2 (.c 7), .c true, g1 331 OO [x0]]
  (nxOuts ++ [TOut.mk [.app 199 .nil] .norm [(0, .tup [.inr noV, .inl (.i .i64 (.c 11))])] [] []])
def cNext : FnC := FnC.mk 54 [.agg (rowV OO x0), ii x1, ii x2] [] [.le (.c 1) x1, .le x1 (.c 8), .le (.c 0) x2, .le x2 (.c 7), .c true, g1 331 OO [x0]] nxOuts
noncomputable def m1 : Tbl := addFn Φ b1 cNext
def idx (O : SL) (i : SI) : SB := .or (.not (.eq (.sel O i 0) (.c 2))) (.and (.le (.c 0) (.sel O i 1)) (.lt (.sel O i 1) (.len RR)))
def sI' : List SB := [.c true, .le (.c 0) x0, .lt x0 (.len OO), invQ TQ MQ]
/-- leave, enter. -/
def lvAe : SL := f2 332 OO TQ [x0]
def lvRe : SL := f2 333 OO RR [x0]
def sameN (A B : SL) : SB := .eq (.len A) (.len B)
def cLv : FnC := FnC.mk 55 [pt 0, ii x0, ii x1] (sO TQ MQ TT CT RR OO q8 n9) (sP ++ sI' ++ [.and (.c true) (idx OO x0)])
  [TOut.mk [sameN lvAe TQ, sameN lvRe RR, invQ lvAe D0] .norm [(0, .tup [])] (sO' lvAe D0 TT CT lvRe OO q8 n9) [3, 4, 8]]
def enAe : SL := f2 334 OO TQ [x2, x0]
def enRe : SL := f2 335 OO RR [x0]
def enBe : SL := f2 336 OO TT [x0]
def cEn : FnC := FnC.mk 56 [pt 0, ii x0, ii x2] (sO TQ MQ TT CT RR OO q8 n9) (sP ++ sI' ++ [.le (.c 0) x2, .lt x2 (.len TQ), .and (.c true) (idx OO x0)])
  [TOut.mk [sameN enAe TQ, sameN enRe RR, .le (.len enBe) (.len TT), invQ enAe D0] .norm [(0, .tup [])] (sO' enAe D0 enBe CT enRe OO q8 n9) [3, 4, 6, 8]]
noncomputable def m2 : Tbl := addFn Φ (addFn Φ m1 cLv) cEn
/-- step: id x0, event x1, CPU x3, home x2. -/
def x4 : SI := .v 4
def stOe (i ev c : SI) : SL := f1 331 OO [i, ev, c]
def stAe (i ev c h : SI) : SL := f2 337 OO TQ [i, ev, c, h]
def stRe (i ev c : SI) : SL := f2 338 OO RR [i, ev, c]
def stBe (i ev c : SI) : SL := f2 339 OO TT [i, ev, c]
def stEe (i ev c : SI) : SI := i1 340 OO [i, ev, c]
def stF (i ev c h : SI) : List SB := [sameN (stOe i ev c) OO, sameN (stAe i ev c h) TQ, sameN (stRe i ev c) RR, .le (.len (stBe i ev c)) (.len TT)]
def stS (i ev c h : SI) (M : SL) : List AObj := sO' (stAe i ev c h) M (stBe i ev c) CT (stRe i ev c) (stOe i ev c) q8 n9
def cSt : FnC := FnC.mk 37 [pt 0, ii x0, ii x1, ii x4, ii x2] (sO TQ MQ TT CT RR OO q8 n9)
  (sP ++ sI' ++ [.le (.c 0) x2, .lt x2 (.len TQ), .le (.c 1) x1, .le x1 (.c 8), .le (.c 0) x4, .lt x4 (.len TQ), g1 331 OO [x0], idx OO x0])
  [TOut.mk (stF x0 x1 x4 x2 ++ [invQ (stAe x0 x1 x4 x2) D0]) .norm [(0, ii (stEe x0 x1 x4))] (stS x0 x1 x4 x2 D0) [3, 4, 6, 8, 9]]
noncomputable def m3 : Tbl := addFn Φ m2 cSt
end Go.SF.C21
namespace Go.SF.C21
open Go Go.SF Go.Proofs
set_option linter.unusedVariables false

def invSe (O A R : SL) : SB := .app 332 (.l O (.l A (.l R .nil)))
def sI2 : List SB := [.c true, invQ TQ MQ, invSe OO TQ RR]
def s0' : List AObj := sO TQ MQ TT CT RR OO q8 n9
def eBad (e : SI) : SB := .or (.or (.lt e (.c 1)) (.lt (.c 8) e)) (.and (.le (.c 2) e) (.le e (.c 4)))
def eOk (e : SI) : List SB := [.le (.c 1) e, .le e (.c 8), .not (.and (.le (.c 2) e) (.le e (.c 4)))]
def iBad (i n : SI) : SB := .or (.lt i (.c 0)) (.le n i)
def iOk (i n : SI) : List SB := [.le (.c 0) i, .lt i n]
def invN (i ev c h : SI) : List SB := [invQ (stAe i ev c h) D0, invSe (stOe i ev c) (stAe i ev c h) (stRe i ev c)]
def hm : SI := .rem x0 (.len RR)
def cDo : FnC := FnC.mk 13 [pt 0, ii x0, ii x1] s0' (sP ++ sI2)
  [TOut.mk [eBad x1] .norm [(0, ii (.c 1))] s0' [],
   TOut.mk (eOk x1 ++ [iBad x0 (.len OO)]) .norm [(0, ii (.c 4))] s0' [],
   TOut.mk (eOk x1 ++ iOk x0 (.len OO) ++ stF x0 x1 (.c 0) hm ++ invN x0 x1 (.c 0) hm) .norm [(0, ii (stEe x0 x1 (.c 0)))] (stS x0 x1 (.c 0) hm D0) [3, 4, 6, 8, 9]]
/-- Dispatch. -/
def z2 (e : Int) : AV := tup (.i .i64 (.c 0)) (.i .i64 (.c e))
def rX' : SI := .sel RR x1 0
def pO : SL := stOe pX (.c 2) x1
def dC : SL := .app 341 (.l CT (.i pX (.i q8 .nil)))
def cDp : FnC := FnC.mk 15 [pt 0, ii x1] s0' (sP ++ sI2)
  [TOut.mk [iBad x1 (.len RR)] .norm [(0, z2 2)] s0' [],
   TOut.mk (iOk x1 (.len RR) ++ [.not (.eq rX' (.c (-1)))]) .norm [(0, z2 9)] s0' [],
   TOut.mk (iOk x1 (.len RR) ++ [.eq rX' (.c (-1)), .not (anyQ TQ)]) .norm [(0, z2 4)] (sO' TQ MQ TT CT RR OO q8 n9) [3],
   TOut.mk (iOk x1 (.len RR) ++ [.eq rX' (.c (-1)), anyQ TQ] ++ iOk pX (.len OO) ++ [sameN pO OO, sameN pQ TQ, invQ pQ D0, invSe pO pQ (setR x1 pX)]) .norm [(0, tup (.i .i64 pX) (.i .i64 (.c 0)))]
     (sO' pQ D0 TT dC (setR x1 pX) pO q8 n9) [3, 4, 6, 7, 8, 9]]
/-- Leave. -/
def cLe : FnC := FnC.mk 17 [pt 0, ii x1, ii x2] s0' (sP ++ sI2)
  [TOut.mk [.not (.eq x2 (.c 3)), .not (.eq x2 (.c 4))] .norm [(0, ii (.c 1))] s0' [],
   TOut.mk [.or (.eq x2 (.c 3)) (.eq x2 (.c 4)), iBad x1 (.len RR)] .norm [(0, ii (.c 2))] s0' [],
   TOut.mk ([.or (.eq x2 (.c 3)) (.eq x2 (.c 4))] ++ iOk x1 (.len RR) ++ [.eq rX' (.c (-1))]) .norm [(0, ii (.c 4))] s0' [],
   TOut.mk ([.or (.eq x2 (.c 3)) (.eq x2 (.c 4))] ++ iOk x1 (.len RR) ++ [.not (.eq rX' (.c (-1)))] ++ iOk rX' (.len OO) ++ stF rX' x2 (.c 0) x1 ++ invN rX' x2 (.c 0) x1) .norm [(0, ii (stEe rX' x2 (.c 0)))] (stS rX' x2 (.c 0) x1 D0) [3, 4, 6, 8, 9]]
/-- Arm. -/
def arT : SL := T.aL 210 TT [x0, x1, x2, n9]
def cAr : FnC := FnC.mk 19 [pt 0, ii x0, ii x1, ii x2] s0' sP
  [TOut.mk [.or (iBad x0 (.len OO)) (.eq (oe x0 0) (.c 5))] .norm [(0, ii (.c 4))] s0' [],
   TOut.mk (iOk x0 (.len OO) ++ [.not (.eq (oe x0 0) (.c 5)), .le (.len arT) (.add (.len TT) (.c 1))]) .norm [(0, ii (.app 210 (saI [x0, x1, x2, n9])))] (sO TQ MQ arT CT RR OO q8 n9) [6]]
/-- Who runs is charged. -/
def chE : SI := T.aI 213 CT [rX', x2]
def chC : SL := T.put CT [rX', chE]
def cCh : FnC := FnC.mk 50 [pt 0, ii x1, ii x2] s0' (sP ++ iOk x1 (.len RR))
  [TOut.mk [.eq rX' (.c (-1))] .norm [(0, bb (.c false))] s0' [],
   TOut.mk [.not (.eq rX' (.c (-1)))] .norm [(0, bb (.lt chE (.c 1)))] (sO TQ MQ TT chC RR OO q8 n9) [7]]
/-- Add. -/
def cAd : FnC := FnC.mk 11 [pt 0, ii x2] s0' (sP ++ [.c true, invSe OO TQ RR])
  [TOut.mk [.or (.lt x2 (.c 1)) (.lt (.c 16) x2)] .norm [(0, z2 1)] s0' [],
   TOut.mk [.le (.c 1) x2, .le x2 (.c 16), .eq (.len OO) (.c 64)] .norm [(0, z2 3)] s0' [],
   TOut.mk [.le (.c 1) x2, .le x2 (.c 16), .lt (.len OO) (.c 64), .eq (.len (addO x2)) (.add (.len OO) (.c 1)), invSe (addO x2) TQ RR] .norm [(0, tup (.i .i64 (.len OO)) (.i .i64 (.c 0)))] (sA TQ MQ TT CT RR (addO x2) q8 n9) [0, 9]]
/-- Of, Running, Queue, Now. -/
def cOf : FnC := FnC.mk 25 [pt 0, ii x0] s0' sP
  [TOut.mk [iBad x0 (.len OO)] .norm [(0, .tup [.inr noV, .inl (.i .i64 (.c 0)), .inl (.b (.c false))])] s0' [],
   TOut.mk (iOk x0 (.len OO)) .norm [(0, .tup [.inr ((rowV OO x0).dropLast ++ [.i .i64 (T.cr CT x0)]), .inl (celI OO x0 9), .inl (.b (.c true))])] s0' []]
def cRn : FnC := FnC.mk 28 [pt 0, ii x1] s0' sP
  [TOut.mk [.or (iBad x1 (.len RR)) (.eq rX' (.c (-1)))] .norm [(0, tup (.i .i64 (.c 0)) (.b (.c false)))] s0' [],
   TOut.mk (iOk x1 (.len RR) ++ [.not (.eq rX' (.c (-1)))]) .norm [(0, tup (.i .i64 rX') (.b (.c true)))] s0' []]
def cNw : FnC := FnC.mk 24 [pt 0] s0' sP [TOut.mk [] .norm [(0, ii n9)] s0' []]
def cQu : FnC := FnC.mk 29 [pt 0, ii x0] s0' (sP ++ [.c true, invQ TQ MQ])
  [TOut.mk [iBad x0 (.len TQ)] .norm [(0, .cv nil)] s0' [],
   TOut.mk (iOk x0 (.len TQ) ++ [.le (.len (Q.row TQ x0)) (.c 64)]) .norm [(0, .cv (.vs 11 (.c 0) (.len (Q.row TQ x0)) none))] (sO' TQ MQ TT CT RR OO q8 n9 ++ [vI (Q.row TQ x0)]) [3]]
noncomputable def m4 : Tbl := addFn Φ m3 cDo
noncomputable def m5 : Tbl := addFn Φ (addFn Φ (addFn Φ m4 cLe) cCh) cDp
end Go.SF.C21
namespace Go.SF.C21
open Go Go.SF Go.Proofs
set_option linter.unusedVariables false

def LL : SL := .v 6
def FF : SL := .v 7
def vsN (j : Nat) (A : SL) : AV := .cv (.vs j (.c 0) (.len A) none)
def tkT : SI := .sub x0 x1
def tk (f : Nat) (c t : SI) : SL := .app f (.l OO (.l TQ (.l RR (.l CT (.l LL (.i c (.i t .nil)))))))
def tk9 : LpC := LpC.mk 21 9 83
  (Tm.mk [(0, pt 0), (1, ii x0), (7, ii x1), (8, vsN 10 FF), (10, vsN 11 LL), (11, .cv nil), (40, ii (.v 11)), (41, ii x2)] (s0' ++ [T.fireO FF, vI LL])
    (sP ++ [.eq (.len RR) (.v 11), .le (.c 0) x1, .le x1 x0, .le x0 (.c 549755813888), .le (.c 0) x2, .le x2 (.len RR), .le (.len LL) x2] ++ sI2))
  [TOut.mk [sameN (tk 350 x2 tkT) OO, sameN (tk 351 x2 tkT) TQ, sameN (tk 352 x2 tkT) RR, .le (.len (tk 354 x2 tkT)) (.len RR), invQ (tk 351 x2 tkT) D0, invSe (tk 350 x2 tkT) (tk 351 x2 tkT) (tk 352 x2 tkT)] (.exit 0)
    [(0, pt 0), (8, vsN 10 FF), (10, vsN 13 (tk 354 x2 tkT)), (11, .cv nil)]
    ([sC (.vs 9 (.c 0) (.len (tk 350 x2 tkT)) none) (.vs 8 (.c 0) (.len (tk 352 x2 tkT)) none), qCs (tk 351 x2 tkT), .dead, .dead, Q.mpO D0, T.tmC q8 n9 6 7, T.mapT TT, T.mapC (tk 353 x2 tkT), vI (tk 352 x2 tkT), onO (tk 350 x2 tkT), T.fireO FF, .dead, .lists 2 [.i .i64] 3 36 (tk 351 x2 tkT) none, vI (tk 354 x2 tkT)]) [3, 4, 6, 7, 8, 9, 11]]
def kT9 : SI := .sub (.len RR) x2
def WW : SL := .v 10
def wkE (f : Nat) (k : SI) : SL := .app f (.l OO (.l TQ (.l RR (.l FF (.l WW (.i k .nil))))))
def tk17 : LpC := LpC.mk 21 17 83
  (Tm.mk [(0, pt 0), (10, vsN 10 LL), (11, vsN 11 WW), (65, vsN 12 FF), (66, ii (.len FF)), (67, ii x2)] (s0' ++ [vI LL, vI WW, T.fireO FF])
    (sP ++ [.lt (.len FF) (.c 80000), .le (.c 0) x2, .le x2 (.len FF), .le (.len WW) x2] ++ sI2))
  [TOut.mk [sameN (wkE 355 x2) OO, sameN (wkE 356 x2) TQ, sameN (wkE 357 x2) RR, .le (.len (wkE 358 x2)) (.len FF), invQ (wkE 356 x2) D0, invSe (wkE 355 x2) (wkE 356 x2) (wkE 357 x2)] (.exit 2)
    [(10, vsN 10 LL), (11, vsN 14 (wkE 358 x2))]
    ([sC (.vs 9 (.c 0) (.len (wkE 355 x2)) none) (.vs 8 (.c 0) (.len (wkE 357 x2)) none), qCs (wkE 356 x2), .dead, .dead, Q.mpO D0, T.tmC q8 n9 6 7, T.mapT TT, T.mapC CT, vI (wkE 357 x2), onO (wkE 355 x2), vI LL, .dead, T.fireO FF, .lists 2 [.i .i64] 3 36 (wkE 356 x2) none, vI (wkE 358 x2)]) [3, 4, 6, 8, 9, 11]]
def kT17 : SI := .sub (.len FF) x2
noncomputable def m6 : Tbl := addLp Φ (addLp Φ m5 tk9) tk17
/-- Tick. -/
def tkN : SI := .sub x0 n9
def tk0 (f : Nat) : SL := .app f (.l OO (.l TQ (.l RR (.l CT (.l (.lit []) (.i (.c 0) (.i tkN .nil)))))))
def wk0 (f : Nat) : SL := .app f (.l (tk0 350) (.l (tk0 351) (.l (tk0 352) (.l (T.tL TT x0) (.l (.lit []) (.i (.c 0) .nil))))))
def cTk : FnC := FnC.mk 21 [pt 0, ii x0] s0' (sP ++ [.le (.c 0) n9, .le n9 (.c 549755813888), .lt (.len TT) (.c 80000)] ++ sI2)
  [TOut.mk [.or (.lt x0 n9) (.lt (.c 549755813888) x0)] .norm [(0, .tup [.inl nil, .inl nil, .inl (.i .i64 (.c 1))])] s0' [],
   TOut.mk [.le n9 x0, .le x0 (.c 549755813888), sameN (wk0 355) OO, sameN (wk0 356) TQ, sameN (wk0 357) RR, .le (.len (T.tT TT x0)) (.len TT), .le (.len (tk0 354)) (.c 8), .lt (.len (wk0 358)) (.c 80000), invQ (wk0 356) D0, invSe (wk0 355) (wk0 356) (wk0 357)] .norm
     [(0, .tup [.inl (.vs 11 (.c 0) (.len (tk0 354)) none), .inl (.vs 12 (.c 0) (.len (wk0 358)) none), .inl (.i .i64 (.c 0))])]
     (sO' (wk0 356) D0 (T.tT TT x0) (tk0 353) (wk0 357) (wk0 355) q8 x0 ++ [vI (tk0 354), vI (wk0 358)]) [3, 4, 5, 6, 7, 8, 9]]
end Go.SF.C21
namespace Go.SF.C21
open Go Go.SF Go.Proofs
set_option linter.unusedVariables false

noncomputable def l1 : Tbl := addFn Φ (addFn Φ (addFn Φ (addFn Φ (addFn Φ (addFn Φ m6 cTk) cAr) cAd) cOf) cRn) cQu
def SS : SL := .v 12
def PP : SL := .v 13
def K5 : List CK := [.i .i64, .i .i64, .i .i64, .i .i64, .i .i64]
def nw : List SB := [.le (.c 0) n9, .le n9 (.c 549755813888)]
/-- What was told to do, and what comes of it. -/
def opC : AObj := .cells [.i .i64 (.v 13), .i .i64 (.v 14), .i .i64 (.v 15), .i .i64 (.v 16), .i .i64 (.v 17)] 31
def zO : SL := .v 1002
def zA : SL := .v 1003
def zR : SL := .v 1004
def zB : SL := .v 1005
def zC : SL := .v 1006
def zn : SI := .v 1001
def sw : LpC := LpC.mk 4 1000002 219
  (Tm.mk [(1, vsN 11 SS), (5, ii nV), (6, pt 0), (8, ii kV), (9, ii (.v 18)), (10, .cv (.p (some ⟨10, .c 0, 0⟩))), (59, ii (.v 13))] (s0' ++ [opC, .ext SS K5]) (sP ++ [.eq (.len OO) kV, .lt (.len TT) (.c 79000)] ++ nw ++ sI2))
  [TOut.mk [sameN zA TQ, sameN zR TQ, .le (.len zO) (.c 64), .le (.len zB) (.add (.len TT) (.c 1)), .le (.c 0) zn, .le zn (.c 549755813888), invQ zA D0, invSe zO zA zR] .norm
    [(1, vsN 11 SS), (5, ii nV), (6, pt 0), (8, ii (.len zO)), (9, ii (.v 18))]
    [sC (.vs 12 (.c 0) (.len zO) none) (.vs 8 (.c 0) (.len zR) none), qCs zA, .dead, .dead, Q.mpO D0, T.tmC q8 zn 6 7, T.mapT zB, T.mapC zC, vI zR, .dead, .dead, .ext SS K5, onO zO, .lists 2 [.i .i64] 3 36 zA none] [0, 3, 4, 5, 6, 7, 8, 9, 10]]
noncomputable def l2 : Tbl := addLp Φ l1 sw
/-- Places. -/
def pl (P : SL) (c k : SI) : SB := .app 333 (.l TQ (.l RR (.l P (.i c (.i k .nil)))))
def oS (P : SL) : List AObj := s0' ++ [vI P, .ext SS K5]
def oS' (P : SL) : List AObj := [sC (.vs 9 (.c 0) (.len OO) none) (.vs 8 (.c 0) (.len RR) none), qCs TQ, .dead, .dead, Q.mpO MQ, T.tmC q8 n9 6 7, T.mapT TT, T.mapC CT, vI RR, onO OO, vI P, .ext SS K5, .lists 2 [.i .i64] 3 36 TQ none]
def slS : List (Nat × AV) := [(1, vsN 11 SS), (5, ii nV), (6, pt 0), (8, ii kV), (9, ii (.v 18)), (13, vsN 10 PP)]
def fS : List SB := sP ++ [.eq (.len TQ) nV, .eq (.len OO) kV]
def sI3 : List SB := sI2 ++ [.eq (.len PP) (.add kV (.c 1))]
def slP (P : SL) : List (Nat × AV) := [(1, vsN 11 SS), (5, ii nV), (6, pt 0), (8, ii kV), (9, ii (.v 18)), (13, vsN 10 P)]
def zP : SL := .v 1002
def nvr (o : List AObj) (w : List Nat) : TOut := TOut.mk [.app 199 .nil] .ret [(4, bb (.c false))] o w
def deadS : List AObj := List.replicate 11 .dead ++ [.ext SS K5]
def on36 : LpC := LpC.mk 4 36 219
  (Tm.mk (slS ++ [(14, ii x1), (20, vsN 12 (Q.row TQ x1)), (21, ii x2)]) (oS PP ++ [vI (Q.row TQ x1)]) (fS ++ [.le (.c 0) x1, .lt x1 (.len TQ), .le (.c 0) x2, .le x2 (.len (Q.row TQ x1))] ++ sI3 ++ [.le (.len (Q.row TQ x1)) (.c 64), pl PP x1 x2]))
  [TOut.mk [sameN zP PP, pl zP (.add x1 (.c 1)) (.c (-1))] (.exit 5) (slP zP ++ [(14, ii x1)]) (oS zP ++ [.dead]) [10, 12], nvr (deadS ++ [.dead]) [0, 1, 3, 4, 5, 6, 7, 8, 9, 10, 12]]
noncomputable def l3 : Tbl := addLp Φ l2 on36
def on26 : LpC := LpC.mk 4 26 219
  (Tm.mk (slS ++ [(14, ii x1)]) (oS PP) (fS ++ [.le (.c 0) x1, .le x1 (.len TQ)] ++ sI3 ++ [pl PP x1 (.c (-1))]))
  [TOut.mk [sameN zP PP, pl zP (.len TQ) (.c (-1))] (.exit 3) (slP zP) (oS' zP) [3, 10], nvr deadS [0, 1, 3, 4, 5, 6, 7, 8, 9, 10]]
noncomputable def l4 : Tbl := addLp Φ l3 on26
def on43 : LpC := LpC.mk 4 43 219
  (Tm.mk (slS ++ [(25, ii x1)]) (oS PP) (fS ++ [.le (.c 0) x1, .le x1 kV] ++ sI3 ++ [pl PP (.len TQ) (.c (-1))]))
  [TOut.mk [] (.exit 7) (slP PP) (oS PP) [], nvr deadS [0, 1, 3, 4, 5, 6, 7, 8, 9, 10]]
noncomputable def l5 : Tbl := addLp Φ l4 on43
def on7 : LpC := LpC.mk 4 7 219
  (Tm.mk [(1, vsN 10 SS), (5, ii nV), (6, pt 0), (8, ii kV), (9, ii x1)] (s0' ++ [.ext SS K5]) (sP ++ [.eq (.len TQ) nV, .eq (.len OO) kV, .le (.c 0) x1, .le x1 (.c 80), .le (.len TT) x1] ++ nw ++ sI2))
  [TOut.mk [] (.exit 0) [] (List.replicate 10 .dead ++ [.ext SS K5]) [0, 1, 3, 4, 5, 6, 7, 8, 9], nvr (List.replicate 10 .dead ++ [.ext SS K5]) [0, 1, 3, 4, 5, 6, 7, 8, 9]]
noncomputable def l6 : Tbl := addLp Φ (addLp Φ (addFn Φ b1 cKnown) nwG) on7
end Go.SF.C21
