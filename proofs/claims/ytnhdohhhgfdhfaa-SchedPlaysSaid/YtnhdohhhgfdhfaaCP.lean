/- Contracts of chapter 21: the document's answer for the package sched. Contracts of chapter 21: the law that all is as the document says. -/
import Derived.Test.YtnhdohhhgfdhfaaCM
import Derived.Test.YtnhdohhhgfdhfaaCD
namespace Go.SF.C21
open Go Go.SF Go.Proofs
set_option linter.unusedVariables false

def TL : SL := .v 14
def TD : SL := .v 15
def onR (O : SL) : AObj := .abs (.vec K10 90) O
def rsC (o r : Nat) (O R : SL) : AObj := .cells [.vs o (.c 0) (.len O) none, .p (some ⟨1, .c 0, 0⟩), .p (some ⟨4, .c 0, 0⟩), .vs r (.c 0) (.len R) none] 49
def rqS (A : SL) : AObj := .cells [.vs 2 (.c 0) (.len A) none, .i .i64 (.c 64)] 65
def lsS (A : SL) : AObj := .lists 2 [.i .i64] 3 36 A none
/-- The state: who there is, the queues, the timers, the credits, who runs. -/
def rS (O A R L D : SL) (q n : SI) : List AObj := [rsC 8 7 O R, rqS A, .dead, lsS A, T.rtC 5 6 L D n q, T.wO L, T.cO D, vI R, onR O]
/-- The queues moved; the timers too; the credits too. -/
def rSq (O A R L D : SL) (q n : SI) : List AObj := [rsC 8 7 O R, rqS A, .dead, .dead, T.rtC 5 6 L D n q, T.wO L, T.cO D, vI R, onR O, lsS A]
def rSt' (O A R L D : SL) (q n : SI) : List AObj := [rsC 8 7 O R, rqS A, .dead, .dead, T.rtC 10 6 L D n q, .dead, T.cO D, vI R, onR O, lsS A, T.wO L]
def rSd (O A R L D : SL) (q n : SI) : List AObj := [rsC 8 7 O R, rqS A, .dead, .dead, T.rtC 10 11 L D n q, .dead, .dead, vI R, onR O, lsS A, T.wO L, T.cO D]
def r0' : List AObj := rS OO TQ RR TL TD q8 n9
def lowS (A : SL) : SB := .app 340 (.l A .nil)
def rP : List SB := [.le (.c 1) (.len TQ), .le (.len TQ) (.c 8), .eq (.len RR) (.len TQ), .le (.len OO) (.c 64), .le (.c 1) q8, .le q8 (.c 10000)]
def rL : List SB := [.c true, .lt (.len TL) (.c 60000), .lt (.len TD) (.c 60000)]
/-- vcpu.Next. -/
def rNx0 : FnC := FnC.mk 59 [.agg (rowV OO x0), ii x1, ii x2] [] [.le (.c 1) x1, .le x1 (.c 8), .le (.c 0) x2, .le x2 (.c 7), .c true, g1 331 OO [x0]]
  (nxOuts ++ [TOut.mk [.app 199 .nil] .norm [(0, .tup [.inr noV, .inl (.i .i64 (.c 11))])] [] []])
def rNx : FnC := FnC.mk 59 [.agg (rowV OO x0), ii x1, ii x2] [] [.le (.c 1) x1, .le x1 (.c 8), .le (.c 0) x2, .le x2 (.c 7), .c true, g1 331 OO [x0]] nxOuts
noncomputable def d1 : Tbl := addFn Φ (addFn Φ (addFn Φ (addFn Φ (addFn Φ (addFn Φ (addFn Φ Q.e6 rNx) T.rDis) T.rArm) T.rTick) T.rCredit) T.rCharge) T.rRefill
/-- step: id x0, event x1, CPU x4, queue x2. -/
def stLe (i ev c : SI) : SL := f2 343 OO TL [i, ev, c]
def rstF (i ev c h : SI) : List SB := [sameN (stOe i ev c) OO, sameN (stAe i ev c h) TQ, sameN (stRe i ev c) RR, .le (.len (stLe i ev c)) (.len TL)]
def rstS (i ev c h : SI) : List AObj := rSt' (stOe i ev c) (stAe i ev c h) (stRe i ev c) (stLe i ev c) TD q8 n9
def runs (i : SI) : SB := .or (.not (.eq (oe i 0) (.c 2))) (.and (.and (.le (.c 0) (oe i 1)) (.lt (oe i 1) (.len RR))) (.eq (.sel RR (oe i 1) 0) i))
def rStep : FnC := FnC.mk 38 [pt 0, ii x0, ii x1, ii x4, ii x2] r0'
  (rP ++ rL ++ [.le (.c 0) x0, .lt x0 (.len OO), .le (.c 0) x2, .lt x2 (.len TQ), .le (.c 1) x1, .le x1 (.c 8), .le (.c 0) x4, .lt x4 (.len TQ), lowS TQ, g1 331 OO [x0], runs x0])
  [TOut.mk (rstF x0 x1 x4 x2) .norm [(0, ii (stEe x0 x1 x4))] (rstS x0 x1 x4 x2) [1, 3, 4, 5, 7, 8]]
noncomputable def d2 : Tbl := addFn Φ d1 rStep
/-- Do, Leave, Dispatch, Arm, Add, Of. -/
def rI : List SB := rL ++ [lowS TQ, invSe OO TQ RR]
def rin (i ev c h : SI) : List SB := [lowS (stAe i ev c h), invSe (stOe i ev c) (stAe i ev c h) (stRe i ev c)]
def rDo : FnC := FnC.mk 14 [pt 0, ii x0, ii x1] r0' (rP ++ rI)
  [TOut.mk [eBad x1] .norm [(0, ii (.c 1))] r0' [],
   TOut.mk (eOk x1 ++ [iBad x0 (.len OO)]) .norm [(0, ii (.c 4))] r0' [],
   TOut.mk (eOk x1 ++ iOk x0 (.len OO) ++ rstF x0 x1 (.c 0) hm ++ rin x0 x1 (.c 0) hm) .norm [(0, ii (stEe x0 x1 (.c 0)))] (rstS x0 x1 (.c 0) hm) [1, 3, 4, 5, 7, 8]]
def rLe : FnC := FnC.mk 18 [pt 0, ii x1, ii x2] r0' (rP ++ rI)
  [TOut.mk [.not (.eq x2 (.c 3)), .not (.eq x2 (.c 4))] .norm [(0, ii (.c 1))] r0' [],
   TOut.mk [.or (.eq x2 (.c 3)) (.eq x2 (.c 4)), iBad x1 (.len RR)] .norm [(0, ii (.c 2))] r0' [],
   TOut.mk ([.or (.eq x2 (.c 3)) (.eq x2 (.c 4))] ++ iOk x1 (.len RR) ++ [.eq rX' (.c (-1))]) .norm [(0, ii (.c 4))] r0' [],
   TOut.mk ([.or (.eq x2 (.c 3)) (.eq x2 (.c 4))] ++ iOk x1 (.len RR) ++ [.not (.eq rX' (.c (-1)))] ++ iOk rX' (.len OO) ++ rstF rX' x2 (.c 0) x1 ++ rin rX' x2 (.c 0) x1) .norm [(0, ii (stEe rX' x2 (.c 0)))] (rstS rX' x2 (.c 0) x1) [1, 3, 4, 5, 7, 8]]
def dD : SL := .app 342 (.l TD (.i pX (.i q8 .nil)))
def rDp : FnC := FnC.mk 16 [pt 0, ii x1] r0' (rP ++ rI)
  [TOut.mk [iBad x1 (.len RR)] .norm [(0, z2 2)] r0' [],
   TOut.mk (iOk x1 (.len RR) ++ [.not (.eq rX' (.c (-1)))]) .norm [(0, z2 9)] r0' [],
   TOut.mk (iOk x1 (.len RR) ++ [.eq rX' (.c (-1)), .not (anyQ TQ)]) .norm [(0, z2 4)] (rSq OO TQ RR TL TD q8 n9) [1, 3],
   TOut.mk (iOk x1 (.len RR) ++ [.eq rX' (.c (-1)), anyQ TQ] ++ iOk pX (.len OO) ++ [sameN pO OO, sameN pQ TQ, .le (.len dD) (.add (.len TD) (.c 1))]) .norm [(0, tup (.i .i64 pX) (.i .i64 (.c 0)))]
     (rSd pO pQ (setR x1 pX) TL dD q8 n9) [1, 3, 4, 5, 6, 7, 8]]
def arL : SL := T.aL 252 TL [x0, x1, x2, n9]
def rAr : FnC := FnC.mk 20 [pt 0, ii x0, ii x1, ii x2] r0' (rP ++ rL)
  [TOut.mk [.or (iBad x0 (.len OO)) (.eq (oe x0 0) (.c 5))] .norm [(0, ii (.c 4))] r0' [],
   TOut.mk (iOk x0 (.len OO) ++ [.not (.eq (oe x0 0) (.c 5)), .le (.len arL) (.add (.len TL) (.c 1))]) .norm [(0, ii (.app 210 (saI [x0, x1, x2, n9])))]
     [rsC 8 7 OO RR, rqS TQ, .dead, lsS TQ, T.rtC 9 6 arL TD n9 q8, .dead, T.cO TD, vI RR, onR OO, T.wO arL] [4, 5]]
def rAd : FnC := FnC.mk 12 [pt 0, ii x2] r0' (rP ++ rL)
  [TOut.mk [.or (.lt x2 (.c 1)) (.lt (.c 16) x2)] .norm [(0, z2 1)] r0' [],
   TOut.mk [.le (.c 1) x2, .le x2 (.c 16), .eq (.len OO) (.c 64)] .norm [(0, z2 3)] r0' [],
   TOut.mk [.le (.c 1) x2, .le x2 (.c 16), .lt (.len OO) (.c 64), .eq (.len (addO x2)) (.add (.len OO) (.c 1))] .norm [(0, tup (.i .i64 (.len OO)) (.i .i64 (.c 0)))]
     [rsC 9 7 (addO x2) RR, rqS TQ, .dead, lsS TQ, T.rtC 5 6 TL TD n9 q8, T.wO TL, T.cO TD, vI RR, .dead, onR (addO x2)] [0, 8]]
def crE' : SI := T.aI 250 TD [x0, .c 0]
def rOf : FnC := FnC.mk 26 [pt 0, ii x0] r0' (rP ++ rL)
  [TOut.mk [iBad x0 (.len OO)] .norm [(0, .tup [.inr noV, .inl (.i .i64 (.c 0)), .inl (.b (.c false))])] r0' [],
   TOut.mk (iOk x0 (.len OO)) .norm [(0, .tup [.inr ((rowV OO x0).dropLast ++ [.i .i64 crE']), .inl (celI OO x0 9), .inl (.b (.c true))])] r0' []]
noncomputable def d3 : Tbl := addFn Φ (addFn Φ (addFn Φ (addFn Φ (addFn Φ (addFn Φ d2 rDo) rLe) rDp) rAr) rAd) rOf
/-- Tick. -/
def tr (f : Nat) (c t : SI) : SL := .app f (.l OO (.l TQ (.l RR (.l TD (.l LL (.i c (.i t .nil)))))))
def tr8 : LpC := LpC.mk 22 8 97
  (Tm.mk [(0, pt 0), (7, ii x1), (8, vsN 9 FF), (10, vsN 10 LL), (11, .cv nil), (12, ii x2)] (r0' ++ [T.refO FF, vI LL])
    (rP ++ [.le (.c 0) x2, .le x2 (.len RR), .le (.len LL) x2] ++ rI ++ [.lt (.add (.len TD) (.sub (.len RR) x2)) (.c 60000)]))
  [TOut.mk [sameN (tr 360 x2 x1) OO, sameN (tr 361 x2 x1) TQ, sameN (tr 362 x2 x1) RR, .le (.len (tr 364 x2 x1)) (.len RR), .lt (.len (tr 363 x2 x1)) (.c 60000), .le (.len (tr 363 x2 x1)) (.add (.len TD) (.sub (.len RR) x2)), lowS (tr 361 x2 x1), invSe (tr 360 x2 x1) (tr 361 x2 x1) (tr 362 x2 x1)] (.exit 0)
    [(0, pt 0), (8, vsN 9 FF), (10, vsN 14 (tr 364 x2 x1)), (11, .cv nil)]
    [rsC 8 7 (tr 360 x2 x1) (tr 362 x2 x1), rqS (tr 361 x2 x1), .dead, .dead, T.rtC 12 13 TL (tr 363 x2 x1) n9 q8, .dead, .dead, vI (tr 362 x2 x1), onR (tr 360 x2 x1), T.refO FF, .dead, lsS (tr 361 x2 x1), T.wO TL, T.cO (tr 363 x2 x1), vI (tr 364 x2 x1)] [1, 3, 4, 5, 6, 7, 8, 10]]
def kr8 : SI := .sub (.len RR) x2
def tr17 : LpC := LpC.mk 22 17 97
  (Tm.mk [(0, pt 0), (8, vsN 9 FF), (10, vsN 10 LL), (11, vsN 11 WW), (16, ii x2)] (r0' ++ [T.refO FF, vI LL, vI WW])
    (rP ++ [.lt (.len FF) (.c 80000), .le (.c 0) x2, .le x2 (.len FF), .le (.len WW) x2] ++ rI))
  [TOut.mk [sameN (wkE 355 x2) OO, sameN (wkE 356 x2) TQ, sameN (wkE 357 x2) RR, .le (.len (wkE 358 x2)) (.len FF), lowS (wkE 356 x2), invSe (wkE 355 x2) (wkE 356 x2) (wkE 357 x2)] (.exit 2)
    [(10, vsN 10 LL), (11, vsN 14 (wkE 358 x2))]
    [rsC 8 7 (wkE 355 x2) (wkE 357 x2), rqS (wkE 356 x2), .dead, .dead, T.rtC 13 6 TL TD n9 q8, .dead, T.cO TD, vI (wkE 357 x2), onR (wkE 355 x2), T.refO FF, vI LL, .dead, lsS (wkE 356 x2), T.wO TL, vI (wkE 358 x2)] [1, 3, 4, 5, 7, 8, 11]]
def kr17 : SI := .sub (.len FF) x2
noncomputable def d4 : Tbl := addLp Φ (addLp Φ d3 tr8) tr17
def trN : SI := .sub x0 n9
def tr0 (f : Nat) : SL := .app f (.l OO (.l TQ (.l RR (.l TD (.l (.lit []) (.i (.c 0) (.i trN .nil)))))))
def ouF : SL := T.aL 254 TL [x0]
def tkF : SL := T.aL 253 TL [x0]
def wr0 (f : Nat) : SL := .app f (.l (tr0 360) (.l (tr0 361) (.l (tr0 362) (.l ouF (.l (.lit []) (.i (.c 0) .nil))))))
def rTk : FnC := FnC.mk 22 [pt 0, ii x0] r0' (rP ++ [.le (.c 0) n9, .le n9 (.c 549755813888)] ++ rI ++ [.lt (.len TD) (.c 50000), .app 252 (.l TL (.i (.c 0) .nil))])
  [TOut.mk [.or (.lt x0 n9) (.lt (.c 549755813888) x0)] .norm [(0, .tup [.inl nil, .inl nil, .inl (.i .i64 (.c 1))])] r0' [],
   TOut.mk [.le n9 x0, .le x0 (.c 549755813888), sameN (wr0 355) OO, sameN (wr0 356) TQ, sameN (wr0 357) RR, .le (.len (tr0 364)) (.c 8), .lt (.len (wr0 358)) (.c 80000), .le (.len (tr0 363)) (.add (.len TD) (.c 8)), lowS (wr0 356)] .norm
     [(0, .tup [.inl (.vs 12 (.c 0) (.len (tr0 364)) none), .inl (.vs 13 (.c 0) (.len (wr0 358)) none), .inl (.i .i64 (.c 0))])]
     [rsC 8 7 (wr0 355) (wr0 357), rqS (wr0 356), .dead, .dead, T.rtC 10 11 tkF (tr0 363) x0 q8, .dead, .dead, vI (wr0 357), onR (wr0 355), lsS (wr0 356), T.wO tkF, T.cO (tr0 363), vI (tr0 364), vI (wr0 358)] [1, 3, 4, 5, 6, 7, 8]]
end Go.SF.C21
namespace Go.SF.C21
open Go Go.SF Go.Proofs
set_option linter.unusedVariables false

/-- Ints. -/
def A5 : SL := .v 5
def A6 : SL := .v 6
def tak (A : SL) (n : SI) : SL := .app 1 (.l A (.i n .nil))
def in4 : LpC := LpC.mk 23 4 26
  (Tm.mk [(0, vsN 0 A5), (1, vsN 1 A6), (5, ii x1)] [vI A5, vI A6] [.le (.c 0) x1, .le x1 (.len A5), .eq (.len A5) (.len A6), .le (.len A5) (.c 90000), .c true, .eqL (tak A5 x1) (tak A6 x1)])
  [TOut.mk [.eqL A5 A6] (.exit 0) [] [vI A5, vI A6] [], TOut.mk [.not (.eqL A5 A6)] .ret [(4, bb (.c false))] [vI A5, vI A6] []]
def ki4 : SI := .sub (.len A5) x1
noncomputable def p0 : Tbl := addLp Φ noTbl in4
def cInts : FnC := FnC.mk 23 [vsN 0 A5, vsN 1 A6] [vI A5, vI A6] [.le (.len A5) (.c 90000), .le (.len A6) (.c 90000)]
  [TOut.mk [.eqL A5 A6] .norm [(0, bb (.c true))] [vI A5, vI A6] [], TOut.mk [.not (.eqL A5 A6)] .norm [(0, bb (.c false))] [vI A5, vI A6] []]
/-- plain, Running. -/
def p9 : List CV := [.i .i64 (.v 40), .i .i64 (.v 41), .b (.v 42), .b (.v 43), .i .u64 (.v 44), .i .u64 (.v 45), .i .u64 (.v 46), .i .u64 (.v 47), .i .i64 (.v 48)]
def cPl : FnC := FnC.mk 27 [.agg p9] [] [] [TOut.mk [] .norm [(0, .agg p9)] [] []]
def rnI : SI := .app 1 (.i (.c 0) (.i rX' .nil))
def cRn1 : FnC := FnC.mk 28 [pt 0, ii x1] s0' (sP ++ iOk x1 (.len RR) ++ [.c true, .or (.eq rX' (.c (-1))) (.le (.c 0) rX')])
  [TOut.mk [] .norm [(0, tup (.i .i64 rnI) (.b (.le (.c 0) rX')))] s0' []]
noncomputable def p1 : Tbl := addFn Φ (addFn Φ (addFn Φ (addFn Φ (addFn Φ (addFn Φ (addFn Φ (addFn Φ (addFn Φ (addFn Φ (addFn Φ l1 cNw) cInts) cPl) cRn1) rDo) rLe) rDp) rAr) rAd) rOf) rTk
/-- The document's state behind the other one. -/
def qC (o r : Nat) (O R : SL) : AObj := .cells [.vs o (.c 0) (.len O) none, .p (some ⟨11, .c 0, 0⟩), .p (some ⟨14, .c 0, 0⟩), .vs r (.c 0) (.len R) none] 49
def qqS (A : SL) : AObj := .cells [.vs 12 (.c 0) (.len A) none, .i .i64 (.c 64)] 65
def qO (O A R L D : SL) (q n : SI) : List AObj := [qC 18 17 O R, qqS A, .dead, .lists 12 [.i .i64] 3 36 A none, T.rtC 15 16 L D n q, T.wO L, T.cO D, vI R, onR O]
def pO' : List AObj := s0' ++ qO OO TQ RR TL TD q8 n9
def iV : SI := .v 18
def zL : SL := .v 1007
def zD : SL := .v 1008
def isE (T L : SL) : SB := .app 250 (.l T (.l L .nil))
def crE2 (C D : SL) : SB := .app 251 (.l C (.l D .nil))
def tiE (T : SL) (n : SI) : SB := .app 252 (.l T (.i n .nil))
def pF (i : SI) : List SB := sP ++ [.eq (.len TQ) nV, .le (.c 0) i] ++ nw
/-- What is asked. -/
def pA (i : SI) : List SB := [.c true, .le (.len TT) i, .lt (.len TL) (.c 1000), .lt (.len TD) (.c 1000), invQ TQ MQ, invSe OO TQ RR, lowS TQ, isE TT TL, crE2 CT TD, tiE TT n9, tiE TL (.c 0), .le (.len TD) (.mul (.c 8) i)]
/-- The same, without how much there may be. -/
def pB : List SB := [.c true, .lt (.len TL) (.c 1000), .lt (.len TD) (.c 1000), invQ TQ MQ, invSe OO TQ RR, crE2 CT TD]
def pS : List (Nat × AV) := [(0, ii nV), (2, vsN 19 SS), (7, pt 0), (9, pt 10)]
def opD (k : Nat) : List (Nat × AV) := [(0, ii nV), (2, vsN k SS), (7, pt 0), (9, pt 10), (11, ii iV)]
def dead20 : List AObj := List.replicate 19 .dead ++ [.ext SS K5]
def all19 : List Nat := [0, 1, 3, 4, 5, 6, 7, 8, 9, 10, 11, 13, 14, 15, 16, 17, 18]
def nvp (k : List AObj) : TOut := TOut.mk [.app 199 .nil] .ret [(6, bb (.c false))] (dead20 ++ k) all19
def pw : LpC := LpC.mk 3 1000002 311
  (Tm.mk (opD 19 ++ [(12, .cv (.p (some ⟨20, .c 0, 0⟩))), (78, ii (.v 13))]) (pO' ++ [.ext SS K5, opC]) (pF iV ++ [.lt iV (.c 80)] ++ pA iV))
  [TOut.mk [sameN zA TQ, sameN zR TQ, .le (.len zO) (.c 64), .le (.c 0) zn, .le zn (.c 549755813888), .le (.len zB) (.add (.len TT) (.c 1)), .le (.len zD) (.add (.len TD) (.c 8)), .lt (.len zL) (.c 1000), invQ zA D0, invSe zO zA zR, lowS zA, isE zB zL, crE2 zC zD, tiE zB zn] .norm
    (opD 19)
    [sC (.vs 21 (.c 0) (.len zO) none) (.vs 8 (.c 0) (.len zR) none), qCs zA, .dead, .dead, Q.mpO D0, T.tmC q8 zn 6 7, T.mapT zB, T.mapC zC, vI zR, .dead,
     qC 23 17 zO zR, qqS zA, .dead, .dead, T.rtC 24 25 zL zD zn q8, .dead, .dead, vI zR, .dead, .ext SS K5, .dead,
     onO zO, .lists 2 [.i .i64] 3 36 zA none, onR zO, T.wO zL, T.cO zD, .lists 12 [.i .i64] 3 36 zA none] (all19 ++ [20]),
   TOut.mk [.app 199 .nil] .ret [(6, bb (.c false))] (dead20 ++ [.dead]) (all19 ++ [20])]
noncomputable def p2 : Tbl := addLp Φ p1 pw
def pO1 : List AObj := pO' ++ [.ext SS K5]
def p36 : LpC := LpC.mk 3 36 311
  (Tm.mk (opD 19 ++ [(27, ii x1)]) pO1 (pF iV ++ [.le (.c (-1)) x1, .le x1 (.c 20)] ++ pB))
  [TOut.mk [] (.exit 3) (opD 19) pO1 [], nvp []]
def kp36 : SI := .sub (.c 20) x1
noncomputable def p3 : Tbl := addLp Φ p2 p36
def pO2 : List AObj := [sC (.vs 9 (.c 0) (.len OO) none) (.vs 8 (.c 0) (.len RR) none), qCs TQ, .dead, .dead, Q.mpO MQ, T.tmC q8 n9 6 7, T.mapT TT, T.mapC CT, vI RR, onO OO,
     qC 18 17 OO RR, qqS TQ, .dead, .dead, T.rtC 15 16 TL TD n9 q8, T.wO TL, T.cO TD, vI RR, onR OO, .ext SS K5, .lists 2 [.i .i64] 3 36 TQ none, .lists 12 [.i .i64] 3 36 TQ none]
def pb6 : LpC := LpC.mk 3 1000006 311
  (Tm.mk (opD 19 ++ [(34, ii x1)]) pO1 (sP ++ [.eq (.len TQ) nV, .le (.c 0) x1, .lt x1 (.len TQ), .c true, invQ TQ MQ, .and (.c true) (.or (.le (.c 0) rX') (.eq rX' (.c (-1))))]))
  [TOut.mk [] .norm (opD 19 ++ [(34, ii x1)]) pO2 [3, 13], nvp []]
noncomputable def p3b : Tbl := addLp Φ p3 pb6
def p43 : LpC := LpC.mk 3 43 311
  (Tm.mk (opD 19 ++ [(34, ii x1)]) pO1 (sP ++ [.eq (.len TQ) nV, .le (.c 0) x1, .le x1 (.len TQ), .c true, invQ TQ MQ, invSe OO TQ RR]))
  [TOut.mk [] (.exit 5) (opD 19) pO2 [3, 13], nvp []]
def kp43 : SI := .sub (.len TQ) x1
noncomputable def p4 : Tbl := addLp Φ p3b p43
def p6 : LpC := LpC.mk 3 6 311
  (Tm.mk (pS ++ [(11, ii x1)]) pO1 (pF x1 ++ [.le x1 (.c 80)] ++ pA x1))
  [TOut.mk [] (.exit 0) [] dead20 all19, nvp []]
def kp6 : SI := .sub (.c 80) x1
/-- The document's New. -/
def nwR : LpC := LpC.mk 10 7 48
  (Tm.mk [(0, ii x0), (10, pt 0), (11, ii x1)] [.cells [nil, .p (some ⟨1, .c 0, 0⟩), .p (some ⟨4, .c 0, 0⟩), .vs 5 (.c 0) (.len RR) none] 49, rqS TQ, .dead, lsS TQ, .cells [nil, nil, .i .i64 (.c 0), .i .i64 q8] 44, vI RR] [.le (.c 0) x1, .le x1 x0, .le (.c 1) x0, .le x0 (.c 8), .eq (.len RR) x1, .c true, .eqL RR (rep [x1, .c (-1)])])
  [TOut.mk [.eq (.len (rep [x0, .c (-1)])) x0] (.exit 0) [(10, pt 0)] [.cells [nil, .p (some ⟨1, .c 0, 0⟩), .p (some ⟨4, .c 0, 0⟩), .vs 6 (.c 0) (.len (rep [x0, .c (-1)])) none] 49, rqS TQ, .dead, lsS TQ, .cells [nil, nil, .i .i64 (.c 0), .i .i64 q8] 44, .dead, vI (rep [x0, .c (-1)])] [0, 5]]
noncomputable def p5 : Tbl := addLp Φ (addLp Φ (addLp Φ (addFn Φ (addFn Φ (addFn Φ b1 cKnown) Q.rqNew) T.rNew) nwG) nwR) p6
def lPlays0 : FnC := FnC.mk 3 [ii x0, ii x1, vsN 0 SS] [.ext SS K5] [] [yes [.ext SS K5], noF [.ext SS K5]]
def lPlays : FnC := FnC.mk 3 [ii x0, ii x1, vsN 0 SS] [.ext SS K5] [] [yes [.ext SS K5]]
end Go.SF.C21
