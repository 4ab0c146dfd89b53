/- Contracts of chapter 21: what an event makes of one, and of all, whatever happens. Contracts of chapter 21: the package sched, whatever happens. Contracts of chapter 21: time goes on. Contracts of chapter 21: the law that none is in two places. -/
import Derived.Test.YtnhdohhhgfdhfaaCV
namespace Go.SF.C21
open Go Go.SF Go.Proofs
set_option linter.unusedVariables false

/-- vcpu.Next, of a row. -/
def celB (O : SL) (i : SI) (j : Nat) : CV := .b (.not (.eq (.sel O i j) (.c 0)))
def celI (O : SL) (i : SI) (j : Nat) : CV := .i .i64 (.sel O i j)
def celU (O : SL) (i : SI) (j : Nat) : CV := .i .u64 (.sel O i j)
def rowV (O : SL) (i : SI) : List CV := [celI O i 0, celI O i 1, celB O i 2, celB O i 3, celU O i 4, celU O i 5, celU O i 6, celU O i 7, celI O i 8]
def rowN (N O : SL) (i : SI) : List CV := [celI N (.c 0) 0, celI N (.c 0) 1, celB N (.c 0) 2, celB N (.c 0) 3, celU O i 4, celU O i 5, celU O i 6, celU O i 7, celI O i 8]
def noV : List CV := [.i .i64 (.c 0), .i .i64 (.c 0), .b (.c false), .b (.c false), .i .u64 (.c 0), .i .u64 (.c 0), .i .u64 (.c 0), .i .u64 (.c 0), .i .i64 (.c 0)]
def f1 (f : Nat) (A : SL) (xs : List SI) : SL := .app f (.l A (saI xs))
def f2 (f : Nat) (A B : SL) (xs : List SI) : SL := .app f (.l A (.l B (saI xs)))
def g1 (f : Nat) (A : SL) (xs : List SI) : SB := .app f (.l A (saI xs))
def i1 (f : Nat) (A : SL) (xs : List SI) : SI := .app f (.l A (saI xs))
def nxN : SL := f1 330 OO [x0, x1, x2]
def bit (x : SI) : List SB := [.le (.c 0) x, .le x (.c 1)]
def nxOuts : List TOut :=
  [TOut.mk ([g1 330 OO [x0, x1, x2]] ++ bit (.sel nxN (.c 0) 2) ++ bit (.sel nxN (.c 0) 3)) .norm [(0, .tup [.inr (rowN nxN OO x0), .inl (.i .i64 (.c 0))])] [] [],
   TOut.mk [.not (g1 330 OO [x0, x1, x2])] .norm [(0, .tup [.inr noV, .inl (.i .i64 (.c 6))])] [] []]
def cNext0 : FnC := FnC.mk 54 [.agg (rowV OO x0), ii x1, ii x2] [] [.le (.c 1) x1, .le x1 (.c 8), .le (.c 0) x2, .le x2 (.c 7), .c true, g1 331 OO [x0]]
  (nxOuts ++ [TOut.mk [.app 199 .nil] .norm [(0, .tup [.inr noV, .inl (.i .i64 (.c 11))])] [] []])
def cNext : FnC := FnC.mk 54 [.agg (rowV OO x0), ii x1, ii x2] [] [.le (.c 1) x1, .le x1 (.c 8), .le (.c 0) x2, .le x2 (.c 7), .c true, g1 331 OO [x0]] nxOuts
noncomputable def m1 : Tbl := addFn Φ b1 cNext
def idx (O : SL) (i : SI) : SB := .or (.not (.eq (.sel O i 0) (.c 2))) (.and (.le (.c 0) (.sel O i 1)) (.lt (.sel O i 1) (.len RR)))
def sI' : List SB := [.c true, .le (.c 0) x0, .lt x0 (.len OO), invQ TQ MQ]
/-- leave, enter. -/
def lvAe : SL := f2 332 OO TQ [x0]
def lvRe : SL := f2 333 OO RR [x0]
def sameN (A B : SL) : SB := .eq (.len A) (.len B)
def cLv : FnC := FnC.mk 55 [pt 0, ii x0, ii x1] (sO TQ MQ TT CT RR OO q8 n9) (sP ++ sI' ++ [.and (.c true) (idx OO x0)])
  [TOut.mk [sameN lvAe TQ, sameN lvRe RR, invQ lvAe D0] .norm [(0, .tup [])] (sO' lvAe D0 TT CT lvRe OO q8 n9) [3, 4, 8]]
def enAe : SL := f2 334 OO TQ [x2, x0]
def enRe : SL := f2 335 OO RR [x0]
def enBe : SL := f2 336 OO TT [x0]
def cEn : FnC := FnC.mk 56 [pt 0, ii x0, ii x2] (sO TQ MQ TT CT RR OO q8 n9) (sP ++ sI' ++ [.le (.c 0) x2, .lt x2 (.len TQ), .and (.c true) (idx OO x0)])
  [TOut.mk [sameN enAe TQ, sameN enRe RR, .le (.len enBe) (.len TT), invQ enAe D0] .norm [(0, .tup [])] (sO' enAe D0 enBe CT enRe OO q8 n9) [3, 4, 6, 8]]
noncomputable def m2 : Tbl := addFn Φ (addFn Φ m1 cLv) cEn
/-- step: id x0, event x1, CPU x3, home x2. -/
def x4 : SI := .v 4
def stOe (i ev c : SI) : SL := f1 331 OO [i, ev, c]
def stAe (i ev c h : SI) : SL := f2 337 OO TQ [i, ev, c, h]
def stRe (i ev c : SI) : SL := f2 338 OO RR [i, ev, c]
def stBe (i ev c : SI) : SL := f2 339 OO TT [i, ev, c]
def stEe (i ev c : SI) : SI := i1 340 OO [i, ev, c]
def stF (i ev c h : SI) : List SB := [sameN (stOe i ev c) OO, sameN (stAe i ev c h) TQ, sameN (stRe i ev c) RR, .le (.len (stBe i ev c)) (.len TT)]
def stS (i ev c h : SI) (M : SL) : List AObj := sO' (stAe i ev c h) M (stBe i ev c) CT (stRe i ev c) (stOe i ev c) q8 n9
def cSt : FnC := FnC.mk 37 [pt 0, ii x0, ii x1, ii x4, ii x2] (sO TQ MQ TT CT RR OO q8 n9)
  (sP ++ sI' ++ [.le (.c 0) x2, .lt x2 (.len TQ), .le (.c 1) x1, .le x1 (.c 8), .le (.c 0) x4, .lt x4 (.len TQ), g1 331 OO [x0], idx OO x0])
  [TOut.mk (stF x0 x1 x4 x2 ++ [invQ (stAe x0 x1 x4 x2) D0]) .norm [(0, ii (stEe x0 x1 x4))] (stS x0 x1 x4 x2 D0) [3, 4, 6, 8, 9]]
noncomputable def m3 : Tbl := addFn Φ m2 cSt
end Go.SF.C21
namespace Go.SF.C21
open Go Go.SF Go.Proofs
set_option linter.unusedVariables false

def invSe (O A R : SL) : SB := .app 332 (.l O (.l A (.l R .nil)))
def sI2 : List SB := [.c true, invQ TQ MQ, invSe OO TQ RR]
def s0' : List AObj := sO TQ MQ TT CT RR OO q8 n9
def eBad (e : SI) : SB := .or (.or (.lt e (.c 1)) (.lt (.c 8) e)) (.and (.le (.c 2) e) (.le e (.c 4)))
def eOk (e : SI) : List SB := [.le (.c 1) e, .le e (.c 8), .not (.and (.le (.c 2) e) (.le e (.c 4)))]
def iBad (i n : SI) : SB := .or (.lt i (.c 0)) (.le n i)
def iOk (i n : SI) : List SB := [.le (.c 0) i, .lt i n]
def invN (i ev c h : SI) : List SB := [invQ (stAe i ev c h) D0, invSe (stOe i ev c) (stAe i ev c h) (stRe i ev c)]
def hm : SI := .rem x0 (.len RR)
def cDo : FnC := FnC.mk 13 [pt 0, ii x0, ii x1] s0' (sP ++ sI2)
  [TOut.mk [eBad x1] .norm [(0, ii (.c 1))] s0' [],
   TOut.mk (eOk x1 ++ [iBad x0 (.len OO)]) .norm [(0, ii (.c 4))] s0' [],
   TOut.mk (eOk x1 ++ iOk x0 (.len OO) ++ stF x0 x1 (.c 0) hm ++ invN x0 x1 (.c 0) hm) .norm [(0, ii (stEe x0 x1 (.c 0)))] (stS x0 x1 (.c 0) hm D0) [3, 4, 6, 8, 9]]
/-- Dispatch. -/
def z2 (e : Int) : AV := tup (.i .i64 (.c 0)) (.i .i64 (.c e))
def rX' : SI := .sel RR x1 0
def pO : SL := stOe pX (.c 2) x1
def dC : SL := .app 341 (.l CT (.i pX (.i q8 .nil)))
def cDp : FnC := FnC.mk 15 [pt 0, ii x1] s0' (sP ++ sI2)
  [TOut.mk [iBad x1 (.len RR)] .norm [(0, z2 2)] s0' [],
   TOut.mk (iOk x1 (.len RR) ++ [.not (.eq rX' (.c (-1)))]) .norm [(0, z2 9)] s0' [],
   TOut.mk (iOk x1 (.len RR) ++ [.eq rX' (.c (-1)), .not (anyQ TQ)]) .norm [(0, z2 4)] (sO' TQ MQ TT CT RR OO q8 n9) [3],
   TOut.mk (iOk x1 (.len RR) ++ [.eq rX' (.c (-1)), anyQ TQ] ++ iOk pX (.len OO) ++ [sameN pO OO, sameN pQ TQ, invQ pQ D0, invSe pO pQ (setR x1 pX)]) .norm [(0, tup (.i .i64 pX) (.i .i64 (.c 0)))]
     (sO' pQ D0 TT dC (setR x1 pX) pO q8 n9) [3, 4, 6, 7, 8, 9]]
/-- Leave. -/
def cLe : FnC := FnC.mk 17 [pt 0, ii x1, ii x2] s0' (sP ++ sI2)
  [TOut.mk [.not (.eq x2 (.c 3)), .not (.eq x2 (.c 4))] .norm [(0, ii (.c 1))] s0' [],
   TOut.mk [.or (.eq x2 (.c 3)) (.eq x2 (.c 4)), iBad x1 (.len RR)] .norm [(0, ii (.c 2))] s0' [],
   TOut.mk ([.or (.eq x2 (.c 3)) (.eq x2 (.c 4))] ++ iOk x1 (.len RR) ++ [.eq rX' (.c (-1))]) .norm [(0, ii (.c 4))] s0' [],
   TOut.mk ([.or (.eq x2 (.c 3)) (.eq x2 (.c 4))] ++ iOk x1 (.len RR) ++ [.not (.eq rX' (.c (-1)))] ++ iOk rX' (.len OO) ++ stF rX' x2 (.c 0) x1 ++ invN rX' x2 (.c 0) x1) .norm [(0, ii (stEe rX' x2 (.c 0)))] (stS rX' x2 (.c 0) x1 D0) [3, 4, 6, 8, 9]]
/-- Arm. -/
def arT : SL := T.aL 210 TT [x0, x1, x2, n9]
def cAr : FnC := FnC.mk 19 [pt 0, ii x0, ii x1, ii x2] s0' sP
  [TOut.mk [.or (iBad x0 (.len OO)) (.eq (oe x0 0) (.c 5))] .norm [(0, ii (.c 4))] s0' [],
   TOut.mk (iOk x0 (.len OO) ++ [.not (.eq (oe x0 0) (.c 5)), .le (.len arT) (.add (.len TT) (.c 1))]) .norm [(0, ii (.app 210 (saI [x0, x1, x2, n9])))] (sO TQ MQ arT CT RR OO q8 n9) [6]]
/-- Who runs is charged. -/
def chE : SI := T.aI 213 CT [rX', x2]
def chC : SL := T.put CT [rX', chE]
def cCh : FnC := FnC.mk 50 [pt 0, ii x1, ii x2] s0' (sP ++ iOk x1 (.len RR))
  [TOut.mk [.eq rX' (.c (-1))] .norm [(0, bb (.c false))] s0' [],
   TOut.mk [.not (.eq rX' (.c (-1)))] .norm [(0, bb (.lt chE (.c 1)))] (sO TQ MQ TT chC RR OO q8 n9) [7]]
/-- Add. -/
def cAd : FnC := FnC.mk 11 [pt 0, ii x2] s0' (sP ++ [.c true, invSe OO TQ RR])
  [TOut.mk [.or (.lt x2 (.c 1)) (.lt (.c 16) x2)] .norm [(0, z2 1)] s0' [],
   TOut.mk [.le (.c 1) x2, .le x2 (.c 16), .eq (.len OO) (.c 64)] .norm [(0, z2 3)] s0' [],
   TOut.mk [.le (.c 1) x2, .le x2 (.c 16), .lt (.len OO) (.c 64), .eq (.len (addO x2)) (.add (.len OO) (.c 1)), invSe (addO x2) TQ RR] .norm [(0, tup (.i .i64 (.len OO)) (.i .i64 (.c 0)))] (sA TQ MQ TT CT RR (addO x2) q8 n9) [0, 9]]
/-- Of, Running, Queue, Now. -/
def cOf : FnC := FnC.mk 25 [pt 0, ii x0] s0' sP
  [TOut.mk [iBad x0 (.len OO)] .norm [(0, .tup [.inr noV, .inl (.i .i64 (.c 0)), .inl (.b (.c false))])] s0' [],
   TOut.mk (iOk x0 (.len OO)) .norm [(0, .tup [.inr ((rowV OO x0).dropLast ++ [.i .i64 (T.cr CT x0)]), .inl (celI OO x0 9), .inl (.b (.c true))])] s0' []]
def cRn : FnC := FnC.mk 28 [pt 0, ii x1] s0' sP
  [TOut.mk [.or (iBad x1 (.len RR)) (.eq rX' (.c (-1)))] .norm [(0, tup (.i .i64 (.c 0)) (.b (.c false)))] s0' [],
   TOut.mk (iOk x1 (.len RR) ++ [.not (.eq rX' (.c (-1)))]) .norm [(0, tup (.i .i64 rX') (.b (.c true)))] s0' []]
def cNw : FnC := FnC.mk 24 [pt 0] s0' sP [TOut.mk [] .norm [(0, ii n9)] s0' []]
def cQu : FnC := FnC.mk 29 [pt 0, ii x0] s0' (sP ++ [.c true, invQ TQ MQ])
  [TOut.mk [iBad x0 (.len TQ)] .norm [(0, .cv nil)] s0' [],
   TOut.mk (iOk x0 (.len TQ) ++ [.le (.len (Q.row TQ x0)) (.c 64)]) .norm [(0, .cv (.vs 11 (.c 0) (.len (Q.row TQ x0)) none))] (sO' TQ MQ TT CT RR OO q8 n9 ++ [vI (Q.row TQ x0)]) [3]]
noncomputable def m4 : Tbl := addFn Φ m3 cDo
noncomputable def m5 : Tbl := addFn Φ (addFn Φ (addFn Φ m4 cLe) cCh) cDp
end Go.SF.C21
namespace Go.SF.C21
open Go Go.SF Go.Proofs
set_option linter.unusedVariables false

def LL : SL := .v 6
def FF : SL := .v 7
def vsN (j : Nat) (A : SL) : AV := .cv (.vs j (.c 0) (.len A) none)
def tkT : SI := .sub x0 x1
def tk (f : Nat) (c t : SI) : SL := .app f (.l OO (.l TQ (.l RR (.l CT (.l LL (.i c (.i t .nil)))))))
def tk9 : LpC := LpC.mk 21 9 83
  (Tm.mk [(0, pt 0), (1, ii x0), (7, ii x1), (8, vsN 10 FF), (10, vsN 11 LL), (11, .cv nil), (40, ii (.v 11)), (41, ii x2)] (s0' ++ [T.fireO FF, vI LL])
    (sP ++ [.eq (.len RR) (.v 11), .le (.c 0) x1, .le x1 x0, .le x0 (.c 549755813888), .le (.c 0) x2, .le x2 (.len RR), .le (.len LL) x2] ++ sI2))
  [TOut.mk [sameN (tk 350 x2 tkT) OO, sameN (tk 351 x2 tkT) TQ, sameN (tk 352 x2 tkT) RR, .le (.len (tk 354 x2 tkT)) (.len RR), invQ (tk 351 x2 tkT) D0, invSe (tk 350 x2 tkT) (tk 351 x2 tkT) (tk 352 x2 tkT)] (.exit 0)
    [(0, pt 0), (8, vsN 10 FF), (10, vsN 13 (tk 354 x2 tkT)), (11, .cv nil)]
    ([sC (.vs 9 (.c 0) (.len (tk 350 x2 tkT)) none) (.vs 8 (.c 0) (.len (tk 352 x2 tkT)) none), qCs (tk 351 x2 tkT), .dead, .dead, Q.mpO D0, T.tmC q8 n9 6 7, T.mapT TT, T.mapC (tk 353 x2 tkT), vI (tk 352 x2 tkT), onO (tk 350 x2 tkT), T.fireO FF, .dead, .lists 2 (.i .i64) 3 36 (tk 351 x2 tkT) none, vI (tk 354 x2 tkT)]) [3, 4, 6, 7, 8, 9, 11]]
def kT9 : SI := .sub (.len RR) x2
def WW : SL := .v 10
def wkE (f : Nat) (k : SI) : SL := .app f (.l OO (.l TQ (.l RR (.l FF (.l WW (.i k .nil))))))
def tk17 : LpC := LpC.mk 21 17 83
  (Tm.mk [(0, pt 0), (10, vsN 10 LL), (11, vsN 11 WW), (65, vsN 12 FF), (66, ii (.len FF)), (67, ii x2)] (s0' ++ [vI LL, vI WW, T.fireO FF])
    (sP ++ [.lt (.len FF) (.c 80000), .le (.c 0) x2, .le x2 (.len FF), .le (.len WW) x2] ++ sI2))
  [TOut.mk [sameN (wkE 355 x2) OO, sameN (wkE 356 x2) TQ, sameN (wkE 357 x2) RR, .le (.len (wkE 358 x2)) (.len FF), invQ (wkE 356 x2) D0, invSe (wkE 355 x2) (wkE 356 x2) (wkE 357 x2)] (.exit 2)
    [(10, vsN 10 LL), (11, vsN 14 (wkE 358 x2))]
    ([sC (.vs 9 (.c 0) (.len (wkE 355 x2)) none) (.vs 8 (.c 0) (.len (wkE 357 x2)) none), qCs (wkE 356 x2), .dead, .dead, Q.mpO D0, T.tmC q8 n9 6 7, T.mapT TT, T.mapC CT, vI (wkE 357 x2), onO (wkE 355 x2), vI LL, .dead, T.fireO FF, .lists 2 (.i .i64) 3 36 (wkE 356 x2) none, vI (wkE 358 x2)]) [3, 4, 6, 8, 9, 11]]
def kT17 : SI := .sub (.len FF) x2
noncomputable def m6 : Tbl := addLp Φ (addLp Φ m5 tk9) tk17
/-- Tick. -/
def tkN : SI := .sub x0 n9
def tk0 (f : Nat) : SL := .app f (.l OO (.l TQ (.l RR (.l CT (.l (.lit []) (.i (.c 0) (.i tkN .nil)))))))
def wk0 (f : Nat) : SL := .app f (.l (tk0 350) (.l (tk0 351) (.l (tk0 352) (.l (T.tL TT x0) (.l (.lit []) (.i (.c 0) .nil))))))
def cTk : FnC := FnC.mk 21 [pt 0, ii x0] s0' (sP ++ [.le (.c 0) n9, .le n9 (.c 549755813888), .lt (.len TT) (.c 80000)] ++ sI2)
  [TOut.mk [.or (.lt x0 n9) (.lt (.c 549755813888) x0)] .norm [(0, .tup [.inl nil, .inl nil, .inl (.i .i64 (.c 1))])] s0' [],
   TOut.mk [.le n9 x0, .le x0 (.c 549755813888), sameN (wk0 355) OO, sameN (wk0 356) TQ, sameN (wk0 357) RR, .le (.len (T.tT TT x0)) (.len TT), .le (.len (tk0 354)) (.c 8), .lt (.len (wk0 358)) (.c 80000), invQ (wk0 356) D0, invSe (wk0 355) (wk0 356) (wk0 357)] .norm
     [(0, .tup [.inl (.vs 11 (.c 0) (.len (tk0 354)) none), .inl (.vs 12 (.c 0) (.len (wk0 358)) none), .inl (.i .i64 (.c 0))])]
     (sO' (wk0 356) D0 (T.tT TT x0) (tk0 353) (wk0 357) (wk0 355) q8 x0 ++ [vI (tk0 354), vI (wk0 358)]) [3, 4, 5, 6, 7, 8, 9]]
end Go.SF.C21
namespace Go.SF.C21
open Go Go.SF Go.Proofs
set_option linter.unusedVariables false

noncomputable def l1 : Tbl := addFn Φ (addFn Φ (addFn Φ (addFn Φ (addFn Φ (addFn Φ m6 cTk) cAr) cAd) cOf) cRn) cQu
def SS : SL := .v 12
def PP : SL := .v 13
def K5 : List CK := [.i .i64, .i .i64, .i .i64, .i .i64, .i .i64]
def nw : List SB := [.le (.c 0) n9, .le n9 (.c 549755813888)]
/-- What was told to do, and what comes of it. -/
def opC : AObj := .cells [.i .i64 (.v 13), .i .i64 (.v 14), .i .i64 (.v 15), .i .i64 (.v 16), .i .i64 (.v 17)] 31
def zO : SL := .v 1002
def zA : SL := .v 1003
def zR : SL := .v 1004
def zB : SL := .v 1005
def zC : SL := .v 1006
def zn : SI := .v 1001
def sw : LpC := LpC.mk 4 1000002 219
  (Tm.mk [(1, vsN 11 SS), (5, ii nV), (6, pt 0), (8, ii kV), (9, ii (.v 18)), (10, .cv (.p (some ⟨10, .c 0, 0⟩))), (59, ii (.v 13))] (s0' ++ [opC, .ext SS K5]) (sP ++ [.eq (.len OO) kV, .lt (.len TT) (.c 79000)] ++ nw ++ sI2))
  [TOut.mk [sameN zA TQ, sameN zR TQ, .le (.len zO) (.c 64), .le (.len zB) (.add (.len TT) (.c 1)), .le (.c 0) zn, .le zn (.c 549755813888), invQ zA D0, invSe zO zA zR] .norm
    [(1, vsN 11 SS), (5, ii nV), (6, pt 0), (8, ii (.len zO)), (9, ii (.v 18))]
    [sC (.vs 12 (.c 0) (.len zO) none) (.vs 8 (.c 0) (.len zR) none), qCs zA, .dead, .dead, Q.mpO D0, T.tmC q8 zn 6 7, T.mapT zB, T.mapC zC, vI zR, .dead, .dead, .ext SS K5, onO zO, .lists 2 (.i .i64) 3 36 zA none] [0, 3, 4, 5, 6, 7, 8, 9, 10]]
noncomputable def l2 : Tbl := addLp Φ l1 sw
/-- Places. -/
def pl (P : SL) (c k : SI) : SB := .app 333 (.l TQ (.l RR (.l P (.i c (.i k .nil)))))
def oS (P : SL) : List AObj := s0' ++ [vI P, .ext SS K5]
def oS' (P : SL) : List AObj := [sC (.vs 9 (.c 0) (.len OO) none) (.vs 8 (.c 0) (.len RR) none), qCs TQ, .dead, .dead, Q.mpO MQ, T.tmC q8 n9 6 7, T.mapT TT, T.mapC CT, vI RR, onO OO, vI P, .ext SS K5, .lists 2 (.i .i64) 3 36 TQ none]
def slS : List (Nat × AV) := [(1, vsN 11 SS), (5, ii nV), (6, pt 0), (8, ii kV), (9, ii (.v 18)), (13, vsN 10 PP)]
def fS : List SB := sP ++ [.eq (.len TQ) nV, .eq (.len OO) kV]
def sI3 : List SB := sI2 ++ [.eq (.len PP) (.add kV (.c 1))]
def slP (P : SL) : List (Nat × AV) := [(1, vsN 11 SS), (5, ii nV), (6, pt 0), (8, ii kV), (9, ii (.v 18)), (13, vsN 10 P)]
def zP : SL := .v 1002
def nvr (o : List AObj) (w : List Nat) : TOut := TOut.mk [.app 199 .nil] .ret [(4, bb (.c false))] o w
def deadS : List AObj := List.replicate 11 .dead ++ [.ext SS K5]
def on36 : LpC := LpC.mk 4 36 219
  (Tm.mk (slS ++ [(14, ii x1), (20, vsN 12 (Q.row TQ x1)), (21, ii x2)]) (oS PP ++ [vI (Q.row TQ x1)]) (fS ++ [.le (.c 0) x1, .lt x1 (.len TQ), .le (.c 0) x2, .le x2 (.len (Q.row TQ x1))] ++ sI3 ++ [.le (.len (Q.row TQ x1)) (.c 64), pl PP x1 x2]))
  [TOut.mk [sameN zP PP, pl zP (.add x1 (.c 1)) (.c (-1))] (.exit 5) (slP zP ++ [(14, ii x1)]) (oS zP ++ [.dead]) [10, 12], nvr (deadS ++ [.dead]) [0, 1, 3, 4, 5, 6, 7, 8, 9, 10, 12]]
def k36 : SI := .sub (.len (Q.row TQ x1)) x2
noncomputable def l3 : Tbl := addLp Φ l2 on36
def on26 : LpC := LpC.mk 4 26 219
  (Tm.mk (slS ++ [(14, ii x1)]) (oS PP) (fS ++ [.le (.c 0) x1, .le x1 (.len TQ)] ++ sI3 ++ [pl PP x1 (.c (-1))]))
  [TOut.mk [sameN zP PP, pl zP (.len TQ) (.c (-1))] (.exit 3) (slP zP) (oS' zP) [3, 10], nvr deadS [0, 1, 3, 4, 5, 6, 7, 8, 9, 10]]
def k26 : SI := .sub (.len TQ) x1
noncomputable def l4 : Tbl := addLp Φ l3 on26
def on43 : LpC := LpC.mk 4 43 219
  (Tm.mk (slS ++ [(25, ii x1)]) (oS PP) (fS ++ [.le (.c 0) x1, .le x1 kV] ++ sI3 ++ [pl PP (.len TQ) (.c (-1))]))
  [TOut.mk [] (.exit 7) (slP PP) (oS PP) [], nvr deadS [0, 1, 3, 4, 5, 6, 7, 8, 9, 10]]
def k43 : SI := .sub kV x1
noncomputable def l5 : Tbl := addLp Φ l4 on43
def on7 : LpC := LpC.mk 4 7 219
  (Tm.mk [(1, vsN 10 SS), (5, ii nV), (6, pt 0), (8, ii kV), (9, ii x1)] (s0' ++ [.ext SS K5]) (sP ++ [.eq (.len TQ) nV, .eq (.len OO) kV, .le (.c 0) x1, .le x1 (.c 80), .le (.len TT) x1] ++ nw ++ sI2))
  [TOut.mk [] (.exit 0) [] (List.replicate 10 .dead ++ [.ext SS K5]) [0, 1, 3, 4, 5, 6, 7, 8, 9], nvr (List.replicate 10 .dead ++ [.ext SS K5]) [0, 1, 3, 4, 5, 6, 7, 8, 9]]
def k7 : SI := .sub (.c 80) x1
noncomputable def l6 : Tbl := addLp Φ (addLp Φ (addFn Φ b1 cKnown) nwG) on7
def lOne0 : FnC := FnC.mk 4 [.cv (.i .u8 x0), vsN 0 SS] [.ext SS K5] [.le (.c 0) x0, .le x0 (.c 255)] [yes [.ext SS K5], noF [.ext SS K5]]
def lOne : FnC := FnC.mk 4 [.cv (.i .u8 x0), vsN 0 SS] [.ext SS K5] [.le (.c 0) x0, .le x0 (.c 255)] [yes [.ext SS K5]]
end Go.SF.C21
