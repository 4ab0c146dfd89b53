/- Contracts of chapter 21: one that is picked, one that yields; Dispatch and Leave; turns; the law of turns. -/
import Derived.Test.YtnhdohhhgfdhfaaC1
namespace Go.SF.C21
open Go Go.SF Go.Proofs
set_option linter.unusedVariables false

/-- The state: who there is, the queues, the timers, who runs. -/
def sO (A M B C R O : SL) (q n : SI) : List AObj := in8 (.vs 9 (.c 0) (.len O) none) A M B C R q n 8 ++ [vI R, onO O]
/-- The same, where the queues have come to lie at the end. -/
def sO' (A M B C R O : SL) (q n : SI) : List AObj := [sC (.vs 9 (.c 0) (.len O) none) (.vs 8 (.c 0) (.len R) none), qCs A, .dead, .dead, Q.mpO M, T.tmC q n 6 7, T.mapT B, T.mapC C] ++ [vI R, onO O] ++ [.lists 2 (.i .i64) 3 36 A none]
def sP : List SB := [.le (.c 1) (.len TQ), .le (.len TQ) (.c 8), .eq (.len RR) (.len TQ), .le (.len OO) (.c 64), .le (.c 1) q8, .le q8 (.c 10000)]
def oe (i : SI) (j : Nat) : SI := .sel OO i j
def invQ (A M : SL) : SB := .app 130 (.l A (.l M (.i (.c 64) .nil)))
def setO (i s on : SI) : SL := .app 310 (.l OO (.i i (.i s (.i on .nil))))
def setR (i x : SI) : SL := .app 4 (.l RR (.i i (.i (.c 0) (.i x .nil))))
def still (i : SI) : List SB := [.eq (oe i 2) (.c 0), .eq (oe i 3) (.c 0), .eq (oe i 8) (.c 0)]
def D0 : SL := .v 1000
def dropQ (i : SI) : SL := .app 112 (.l TQ (.i i .nil))
def cPick : FnC := FnC.mk 37 [pt 0, ii x0, ii (.c 2), ii x1, ii x2] (sO TQ MQ TT CT RR OO q8 n9)
  (sP ++ [.c true, .le (.c 0) x0, .lt x0 (.len OO), .le (.c 0) x1, .lt x1 (.len TQ), invQ TQ MQ, .eq (oe x0 0) (.c 1), .eq (oe x0 1) (.c (-1))] ++ still x0)
  [TOut.mk [.eq (.len (setO x0 (.c 2) x1)) (.len OO), .eq (.len (dropQ x0)) (.len TQ), invQ (dropQ x0) D0] .norm [(0, ii (.c 0))] (sO' (dropQ x0) D0 TT CT (setR x1 x0) (setO x0 (.c 2) x1) q8 n9) [3, 4, 8, 9]]
def pushQ (c i : SI) : SL := .app 110 (.l TQ (.i c (.i i (.i (.c 64) .nil))))
def cYld : FnC := FnC.mk 37 [pt 0, ii x0, ii (.c 3), ii (.c 0), ii x1] (sO TQ MQ TT CT RR OO q8 n9)
  (sP ++ [.c true, .le (.c 0) x0, .lt x0 (.len OO), .le (.c 0) x1, .lt x1 (.len TQ), invQ TQ MQ, .eq (oe x0 0) (.c 2), .eq (oe x0 1) x1] ++ still x0)
  [TOut.mk [.eq (.len (setO x0 (.c 1) (.c (-1)))) (.len OO), .eq (.len (pushQ x1 x0)) (.len TQ), invQ (pushQ x1 x0) D0] .norm [(0, ii (.c 0))] (sO' (pushQ x1 x0) D0 TT CT (setR x1 (.c (-1))) (setO x0 (.c 1) (.c (-1))) q8 n9) [3, 4, 8, 9]]
noncomputable def s1 : Tbl := addFn Φ (addFn Φ b1 cPick) cYld
/-- Dispatch, Leave, where all are ready or run. -/
def srv (O A R : SL) : SB := .app 310 (.l O (.l A (.l R .nil)))
def anyQ (A : SL) : SB := .app 132 (.l A .nil)
def tup (x y : CV) : AV := .tup [.inl x, .inl y]
def pX : SI := .app 112 (.l TQ (.i x1 .nil))
def pQ : SL := .app 111 (.l TQ (.i x1 .nil))
def D1 : SL := .v 1001
def sQ : List SB := sP ++ [.le (.len OO) (.c 20), .c true, .le (.c 0) x1, .lt x1 (.len TQ), invQ TQ MQ, srv OO TQ RR]
def cDisp : FnC := FnC.mk 15 [pt 0, ii x1] (sO TQ MQ TT CT RR OO q8 n9) (sQ ++ [.eq (.sel RR x1 0) (.c (-1))])
  [TOut.mk [.not (anyQ TQ)] .norm [(0, tup (.i .i64 (.c 0)) (.i .i64 (.c 4)))] (sO' TQ MQ TT CT RR OO q8 n9) [3],
   TOut.mk [anyQ TQ, .le (.c 0) pX, .lt pX (.len OO), .eq (.len (setO pX (.c 2) x1)) (.len OO), .eq (.len pQ) (.len TQ), invQ pQ D0, srv (setO pX (.c 2) x1) pQ (setR x1 pX)] .norm [(0, tup (.i .i64 pX) (.i .i64 (.c 0)))]
     (sO' pQ D0 TT D1 (setR x1 pX) (setO pX (.c 2) x1) q8 n9) [3, 4, 7, 8, 9]]
def rX : SI := .sel RR x1 0
def lQ : SL := .app 115 (.l TQ (.i x1 (.i rX .nil)))
def cLeave : FnC := FnC.mk 17 [pt 0, ii x1, ii (.c 3)] (sO TQ MQ TT CT RR OO q8 n9) sQ
  [TOut.mk [.eq rX (.c (-1))] .norm [(0, ii (.c 4))] (sO TQ MQ TT CT RR OO q8 n9) [],
   TOut.mk [.not (.eq rX (.c (-1))), .eq (.len (setO rX (.c 1) (.c (-1)))) (.len OO), .eq (.len lQ) (.len TQ), invQ lQ D0, srv (setO rX (.c 1) (.c (-1))) lQ (setR x1 (.c (-1)))] .norm [(0, ii (.c 0))]
     (sO' lQ D0 TT CT (setR x1 (.c (-1))) (setO rX (.c 1) (.c (-1))) q8 n9) [3, 4, 8, 9]]
end Go.SF.C21
namespace Go.SF.C21
open Go Go.SF Go.Proofs
set_option linter.unusedVariables false

noncomputable def s2 : Tbl := addFn Φ (addFn Φ b1 cDisp) cLeave
def NN : SL := .v 6
def x3 : SI := .v 10
def nnO (N : SL) : AObj := vI N
/-- With who ran; the queues moved to the end. -/
def sN (A M B C R O N : SL) (q n : SI) : List AObj := sO A M B C R O q n ++ [vI N]
def sN' (A M B C R O N : SL) (q n : SI) : List AObj := (sO' A M B C R O q n).dropLast ++ [vI N] ++ [.lists 2 (.i .i64) 3 36 A none]
def nV : SI := .v 11
def kV : SI := .v 12
def svE : List (Nat × AV) := [(5, ii nV), (6, ii kV), (7, pt 0), (12, .cv (.vs 10 (.c 0) (.len NN) none))]
def f4 (f : Nat) (c : SI) : SL := .app f (.l TQ (.l RR (.l NN (.i c .nil))))
def f3 (f : Nat) (c : SI) : SL := .app f (.l TQ (.l RR (.i c .nil)))
def idle (R : SL) (c : SI) : SB := .app 320 (.l R (.i c .nil))
def D2 : SL := .v 1002
def svP0 : List SB := sP ++ [.eq (.len TQ) nV, .eq (.len OO) kV, .le (.len OO) (.c 20)]
def svP : List SB := svP0 ++ [.eq (.len NN) (.len OO)]
def svQ : List SB := [.c true, invQ TQ MQ, srv OO TQ RR]
def sv17 : LpC := LpC.mk 5 17 106 (Tm.mk (svE ++ [(13, ii x3), (14, ii x1)]) (sN TQ MQ TT CT RR OO NN q8 n9) (svP ++ [.le (.c 0) x1, .le x1 (.len TQ)] ++ svQ ++ [idle RR x1]))
  [TOut.mk [.eq (.len (f4 320 x1)) (.len TQ), .eq (.len (f4 321 x1)) (.len TQ), .eq (.len (f4 322 x1)) (.len OO), .eq (.len D2) (.len OO), invQ (f4 320 x1) D0, srv D2 (f4 320 x1) (f4 321 x1)] (.exit 4)
    [(5, ii nV), (6, ii kV), (7, pt 0), (12, .cv (.vs 10 (.c 0) (.len (f4 322 x1)) none)), (13, ii x3)] (sN' (f4 320 x1) D0 TT D1 (f4 321 x1) D2 (f4 322 x1) q8 n9) [3, 4, 7, 8, 9, 10]]
def kD : SI := .sub (.len TQ) x1
def sv23 : LpC := LpC.mk 5 23 106 (Tm.mk (svE ++ [(13, ii x3), (17, ii x1)]) (sN TQ MQ TT CT RR OO NN q8 n9) (svP ++ [.le (.c 0) x1, .le x1 (.len TQ)] ++ svQ))
  [TOut.mk [.eq (.len (f3 323 x1)) (.len TQ), .eq (.len (f3 324 x1)) (.len TQ), .eq (.len D2) (.len OO), invQ (f3 323 x1) D0, srv D2 (f3 323 x1) (f3 324 x1)] (.exit 6)
    (svE ++ [(13, ii x3)]) (sN' (f3 323 x1) D0 TT CT (f3 324 x1) D2 NN q8 n9) [3, 4, 8, 9]]
noncomputable def s3 : Tbl := addLp Φ (addLp Φ s2 sv17) sv23
def tl : SI := .sub (.add (.add (.len OO) (.len OO)) (.c 2)) x3
def sv14 : LpC := LpC.mk 5 14 106 (Tm.mk (svE ++ [(13, ii x3)]) (sN TQ MQ TT CT RR OO NN q8 n9) (svP0 ++ [.le (.c 0) x3, .le x3 (.c 42)] ++ svQ ++ [.eq (.len NN) (.len OO), .le x3 (.add (.add (.len OO) (.len OO)) (.c 2)), idle RR (.c 0)]))
  [TOut.mk [.eq (.len (f4 327 tl)) (.len OO)] (.exit 2) [(6, ii kV), (12, .cv (.vs 10 (.c 0) (.len (f4 327 tl)) none))] (List.replicate 10 .dead ++ [vI (f4 327 tl)]) [0, 1, 3, 4, 5, 6, 7, 8, 9, 10]]
end Go.SF.C21
namespace Go.SF.C21
open Go Go.SF Go.Proofs
set_option linter.unusedVariables false

/-- New's loop, for any number of CPUs. -/
def nwG : LpC := LpC.mk 9 9 44
  (Tm.mk [(9, pt 0), (30, ii x0), (31, ii x1)] (nwO RR) [.le (.c 0) x1, .le x1 x0, .le (.c 1) x0, .le x0 (.c 8), .eq (.len RR) x1, .c true, .eqL RR (rep [x1, .c (-1)])])
  [TOut.mk [.eq (.len (rep [x0, .c (-1)])) x0] (.exit 0) [(9, pt 0)] (sC nil (.vs 9 (.c 0) (.len (rep [x0, .c (-1)])) none) :: (nwO RR).tail.dropLast ++ [.dead, vI (rep [x0, .c (-1)])]) [0, 8]]
/-- Add; Start. -/
def addO (x : SI) : SL := .app 311 (.l OO (.i x .nil))
def newR (O : SL) (i : SI) : List SB := [.eq (.sel O i 0) (.c 0), .eq (.sel O i 1) (.c (-1)), .eq (.sel O i 2) (.c 0), .eq (.sel O i 3) (.c 0), .eq (.sel O i 8) (.c 0)]
def sA (A M B C R O : SL) (q n : SI) : List AObj := in8 (.vs 10 (.c 0) (.len O) none) A M B C R q n 8 ++ [vI R, .dead, onO O]
def cAdd : FnC := FnC.mk 11 [pt 0, ii x2] (sO TQ MQ TT CT RR OO q8 n9) (sP ++ [.lt (.len OO) (.c 64), .le (.c 1) x2, .le x2 (.c 16)])
  [TOut.mk ([.eq (.len (addO x2)) (.add (.len OO) (.c 1))] ++ newR (addO x2) (.len OO)) .norm [(0, tup (.i .i64 (.len OO)) (.i .i64 (.c 0)))] (sA TQ MQ TT CT RR (addO x2) q8 n9) [0, 9]]
def cStart : FnC := FnC.mk 37 [pt 0, ii x0, ii (.c 1), ii (.c 0), ii x1] (sO TQ MQ TT CT RR OO q8 n9)
  (sP ++ [.c true, .le (.c 0) x0, .lt x0 (.len OO), .le (.c 0) x1, .lt x1 (.len TQ), invQ TQ MQ] ++ newR OO x0)
  [TOut.mk [.eq (.len (setO x0 (.c 1) (.c (-1)))) (.len OO), .eq (.len (pushQ x1 x0)) (.len TQ), invQ (pushQ x1 x0) D0] .norm [(0, ii (.c 0))] (sO' (pushQ x1 x0) D0 TT CT RR (setO x0 (.c 1) (.c (-1))) q8 n9) [3, 4, 9]]
noncomputable def a1 : Tbl := addFn Φ (addFn Φ b1 cAdd) cStart
def begA : SL := .app 328 (.l TQ (.i x1 (.i kV .nil)))
def sBg (A M B C R O : SL) (q n : SI) : List AObj := [sC (.vs 11 (.c 0) (.len O) none) (.vs 8 (.c 0) (.len R) none), qCs A, .dead, .dead, Q.mpO M, T.tmC q n 6 7, T.mapT B, T.mapC C] ++ [vI R, .dead] ++ [.lists 2 (.i .i64) 3 36 A none, onO O]
def sv7 : LpC := LpC.mk 5 7 106 (Tm.mk [(5, ii nV), (6, ii kV), (7, pt 0), (9, ii x1)] (sO TQ MQ TT CT RR OO q8 n9) (sP ++ [.eq (.len TQ) nV, .le (.c 0) x1, .le x1 kV, .le kV (.c 20), .eq (.len OO) x1] ++ svQ))
  [TOut.mk [.eq (.len begA) (.len TQ), .eq (.len D2) kV, invQ begA D0, srv D2 begA RR] (.exit 0) [(5, ii nV), (6, ii kV), (7, pt 0)] (sBg begA D0 TT CT RR D2 q8 n9) [0, 3, 4, 9]]
def kB : SI := .sub kV x1
noncomputable def s4 : Tbl := addLp Φ a1 sv7
/-- All have run. -/
def sv27 : LpC := LpC.mk 5 27 106 (Tm.mk [(6, ii kV), (12, .cv (.vs 0 (.c 0) (.len NN) none)), (18, ii x1)] [vI NN] [.le (.c 0) x1, .le x1 (.len NN), .eq (.len NN) kV, .le kV (.c 20), .c true, .app 321 (.l NN (.i x1 .nil))])
  [TOut.mk [] (.exit 8) [] [vI NN] [], TOut.mk [.app 199 .nil] .ret [(4, bb (.c false))] [vI NN] []]
def kR : SI := .sub (.len NN) x1
noncomputable def s5 : Tbl := addLp Φ (addLp Φ (addLp Φ (addLp Φ (addFn Φ b1 cKnown) nwG) sv7) sv14) sv27
def lServes0 : FnC := FnC.mk 5 [.cv (.i .u8 x0), .cv (.i .u8 x1)] [] [.le (.c 0) x0, .le x0 (.c 255), .le (.c 0) x1, .le x1 (.c 255)] [yes [], noF []]
def lServes : FnC := FnC.mk 5 [.cv (.i .u8 x0), .cv (.i .u8 x1)] [] [.le (.c 0) x0, .le x0 (.c 255), .le (.c 0) x1, .le x1 (.c 255)] [yes []]
end Go.SF.C21
